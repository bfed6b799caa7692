/- The walk of the document's Sum. -/
import Derived.Test.YtdmopbfckdadnaaShH
namespace Go.Proofs.Ytdmopbfckdadnaa
open Go.RowKit
attribute [local go_sem] bs_size bs_getElem bs_list bs_append

set_option maxRecDepth 100000 in
set_option maxHeartbeats 8000000 in
theorem sum_r_any (l : List UInt8) (hl : l.length ≤ 100000) (S : List UInt8) (HSS : Hid (sumL l = S)) (w : World) :
    Calls Try.prog 32 #[.string (bs l)] w fun e w' => e = .returned (.string (bs S)) ∧ Below w.heap.size w w' := by
  obtain ⟨i0, hi, hz0, hz1, hz2⟩ := info_parts info5
  have HI := Lib.hid hi
  have HZ0 := Lib.hid hz0
  have HZ1 := Lib.hid hz1
  have HZ2 := Lib.hid hz2
  obtain ⟨j0, ji, jz0, jz1, jz2⟩ := info_parts info25
  have JI := Lib.hid ji
  have JZ0 := Lib.hid jz0
  have JZ1 := Lib.hid jz1
  have JZ2 := Lib.hid jz2
  have HL := Lib.hid hl
  have hsA : ∀ A, A = av start → Blk (w.alloc (.cells A 57)) w.heap.size 57 (av start) := fun A h => h ▸ Blk.new _ _ _
  have HA := Lib.hid (hsA _ start_cells)
  clear hi hz0 hz1 hz2 ji jz0 jz1 jz2 hl hsA
  go_enter Try.func32, Try.ntmps32
  go_wp2_with (refine wpList_bytes_C _ rfl 9 37 5 _ rfl Try.underlying9 Try.underlying37 Try.underlying5 l rfl (by have := HL.out; unfold maxLen; omega) ?_)
  intro g cap W2 hgw hO hb2 hs2
  have hH2 : Blk W2 w.heap.size 57 (av start) := HA.out.below hb2 (by simp)
  have hb3 : Below w.heap.size w W2 := ((Below.refl _ w).alloc (Nat.le_refl _) _).trans (hb2.mono (by simp))
  have HO := Lib.hid hO
  have HH := Lib.hid hH2
  have HB := Lib.hid hb3
  have HG := Lib.hid hgw
  clear hO hH2 hb2 hb3 hgw HA
  go_wp2_with (at_builtin; refine wpList_append_C _ rfl (.tmp 25) (.tmp 26) 37 37 rfl 5 i0 (.int .u8 0) 1 Try.underlying37 HI.out HZ0.out HZ1.out rfl (by decide) (w.heap.size + 1) _ l.length (bv l) rfl (HO.out.alloc _) (.slice (some ⟨_, 0, none⟩) 1 1) rfl 1 (bv [128]) ?c1 ?c3 ?c4 ?c5 ?_)
  case c1 => exact Src.one Try.underlying37 (by rw [← hs2]; simp) rfl
  case c3 => have := HL.out; unfold maxLen; omega
  case c4 => have := HL.out; rw [HZ2.out]; omega
  case c5 => simp; omega
  intro v1 W3 hO hg hat
  have hgr : Grew W2 (.slice (some ⟨g, 0, none⟩) l.length cap) W3 v1 := (Grew.alloc _ _ _).trans (Grew.step hg hat (by simp [hs2]))
  have hH3 := hgr.blk HH.out (by simp [Value.ownBlock, HG.out])
  have hb4 := hgr.toBelow HB.out (by omega) (by simp [Value.ownBlock, HG.out])
  have hs3 := hgr.1.size
  clear hg hat hgr HO HH HB
  rw [← bv_append] at hO
  have HO := Lib.hid hO
  have HH := Lib.hid hH3
  have HB := Lib.hid hb4
  clear hO hH3 hb4
  go_wp2_with fail
  go_loopw [4] (fun v wr => ∃ k : Nat, k ≤ zerosOf l.length ∧ OwnC wr (w.heap.size + 1) 1 v (l.length + 1 + k) (bv (l ++ 128 :: List.replicate k 0)) ∧ Blk wr w.heap.size 57 (av start) ∧ Below w.heap.size w wr ∧ w.heap.size + 2 ≤ wr.heap.size) (fun v _ => l.length + 1 + zerosOf l.length - vlen v)
  case atStart => exact ⟨0, Nat.zero_le _, HO.out, HH.out, HB.out, by omega⟩
  case round =>
    obtain ⟨k, hk, hO, hH, hb, hs⟩ := hrel
    have hBw : w.heap.size + 1 ≤ wr.heap.size := by omega
    obtain ⟨N, hN⟩ : ∃ N, N = l.length + 1 + k := ⟨_, rfl⟩
    have HN := Lib.hid hN
    have hNl : N ≤ 100200 := by have := zeros_le l.length; have := HL.out; omega
    rw [← hN] at hO
    obtain ⟨g4, c4, rfl, hg4, hlt4, hnc4, hcm4, hx4, hf4⟩ := hO.form (by omega)
    rcases Nat.lt_or_ge k (zerosOf l.length) with hlt | hge
    · as_aux_lemma =>
      have hne := zeros_lt l.length k hlt
      rw [← hN] at hne
      have hd : ((N : Int) % 128 != 112) = true := by rw [bne_iff_ne]; omega
      clear hne hx4 hf4 hlt4 hnc4 hcm4 hN
      have HO := Lib.hid hO
      have HH := Lib.hid hH
      have HB := Lib.hid hb
      clear hO hH hb
      go_wp2_with (at_builtin; refine wpList_append_C _ rfl (.tmp 32) (.tmp 33) 37 37 rfl 5 i0 (.int .u8 0) 1 Try.underlying37 HI.out HZ0.out HZ1.out rfl (by decide) (w.heap.size + 1) _ N _ rfl (HO.out.alloc _) (.slice (some ⟨wr.heap.size, 0, none⟩) 1 1) rfl 1 (bv [0]) ?c1 ?c3 ?c4 ?c5 ?_)
      case c1 => exact Src.one Try.underlying37 (by simp) rfl
      case c3 => unfold maxLen; omega
      case c4 => rw [HZ2.out]; omega
      case c5 => simp; omega
      intro v' w1 hO' hg hat
      have hgr : Grew wr (.slice (some ⟨g4, 0, none⟩) N c4) w1 v' := (Grew.alloc _ _ _).trans (Grew.step hg hat (by simp))
      have hH' := hgr.blk HH.out (by simp [Value.ownBlock]; omega)
      have hb' := hgr.toBelow HB.out (by omega) (by simp [Value.ownBlock]; omega)
      have hs' := hgr.1.size
      rw [← bv_append, show (l ++ 128 :: List.replicate k 0) ++ [0] = l ++ 128 :: List.replicate (k + 1) 0 from by rw [List.replicate_succ']; simp, HN.out] at hO'
      have HO := Lib.hid hO'
      have HH := Lib.hid hH'
      have HB := Lib.hid hb'
      clear hO' hH' hb' hg hat hgr
      go_wp2_with fail
      refine ⟨⟨k + 1, by omega, HO.out, HH.out, HB.out, by omega⟩, ?_⟩
      obtain ⟨g6, c6, e6, _⟩ := HO.out.form (by omega)
      have hv1 : vlen v' = l.length + 1 + k + 1 := by rw [e6]; rfl
      have hv2 : vlen (Value.slice (some { block := g4, off := 0 }) N c4) = N := rfl
      have := HN.out
      rw [hv1, hv2]
      omega
    · obtain rfl : k = zerosOf l.length := by omega
      have he := zeros_eq l.length
      rw [← hN] at he
      have hd : ((N : Int) % 128 != 112) = false := by rw [bne_eq_false_iff_eq]; omega
      have hm : IntKind.u64.wrap (8 * IntKind.u64.wrap (l.length : Int)) = ((8 * l.length : Nat) : Int) := by
        have := HL.out; rw [IntKind.wrap_u64, IntKind.wrap_u64]; omega
      have HM := Lib.hid hm
      clear he hx4 hf4 hlt4 hnc4 hcm4 hN hm
      have HO := Lib.hid hO
      have HH := Lib.hid hH
      have HB := Lib.hid hb
      clear hO hH hb
      go_wp2_with fail
      refine (eight_any 0 _).mono ?_
      rintro e wA ⟨vA, rfl, hOA, hbA⟩
      have hO1 : OwnC wA (w.heap.size + 1) 1 (.slice (some ⟨g4, 0, none⟩) N c4) N (bv (l ++ 128 :: List.replicate (zerosOf l.length) 0)) := HO.out.below hbA
      have hH1 : Blk wA w.heap.size 57 (av start) := HH.out.below hbA HH.out.lt
      have hB1 : Below w.heap.size w wA := HB.out.trans (hbA.mono (by omega))
      have hsA := hbA.size
      have HO := Lib.hid hO1
      have HH := Lib.hid hH1
      have HB := Lib.hid hB1
      have HOA := Lib.hid hOA
      clear hO1 hH1 hB1 hOA hbA
      go_wp2_with (at_builtin; refine wpList_append_C _ rfl (.tmp 35) (.tmp 36) 37 37 rfl 5 i0 (.int .u8 0) 1 Try.underlying37 HI.out HZ0.out HZ1.out rfl (by decide) (w.heap.size + 1) _ N _ rfl HO.out vA rfl 8 (bv (be8 0)) ?c1 ?c3 ?c4 ?c5 ?_)
      case c1 => exact Src.own Try.underlying37 HOA.out (bv_one _)
      case c3 => unfold maxLen; omega
      case c4 => rw [HZ2.out]; omega
      case c5 => omega
      intro v4 w4 hO4 hg hat
      have hgr : Grew wA (.slice (some ⟨g4, 0, none⟩) N c4) w4 v4 := Grew.step hg hat (Nat.le_refl _)
      have hH4 := hgr.blk HH.out (by simp [Value.ownBlock]; omega)
      have hB4 := hgr.toBelow HB.out (by omega) (by simp [Value.ownBlock]; omega)
      have hs4 := hgr.1.size
      rw [← bv_append] at hO4
      have HO := Lib.hid hO4
      have HH := Lib.hid hH4
      have HB := Lib.hid hB4
      clear hO4 hH4 hB4 hgr hg hat HOA
      obtain ⟨g8, c8, e8, hg8, _⟩ := HO.out.form (by omega)
      have hg8 : v4.ownBlock = some g8 := by rw [e8]; rfl
      have HG8 := Lib.hid hg8
      clear hg8 e8
      go_wp2_with fail
      rw [HM.out]
      refine (eight_any (8 * l.length) _).mono ?_
      rintro e wB ⟨vB, rfl, hOB, hbB⟩
      have hO1 : OwnC wB (w.heap.size + 1) 1 v4 (N + 8) _ := HO.out.below hbB
      have hH1 : Blk wB w.heap.size 57 (av start) := HH.out.below hbB HH.out.lt
      have hB1 : Below w.heap.size w wB := HB.out.trans (hbB.mono (by omega))
      have hsB := hbB.size
      have HO := Lib.hid hO1
      have HH := Lib.hid hH1
      have HB := Lib.hid hB1
      have HOB := Lib.hid hOB
      clear hO1 hH1 hB1 hOB hbB
      go_wp2_with (at_builtin; refine wpList_append_C _ rfl (.tmp 38) (.tmp 43) 37 37 rfl 5 i0 (.int .u8 0) 1 Try.underlying37 HI.out HZ0.out HZ1.out rfl (by decide) (w.heap.size + 1) _ (N + 8) _ rfl HO.out vB rfl 8 (bv (be8 (8 * l.length))) ?c1 ?c3 ?c4 ?c5 ?_)
      case c1 => exact Src.own Try.underlying37 HOB.out (bv_one _)
      case c3 => unfold maxLen; omega
      case c4 => rw [HZ2.out]; omega
      case c5 => omega
      intro v5 w5 hO5 hg hat
      have hgr : Grew wB v4 w5 v5 := Grew.step hg hat (Nat.le_refl _)
      have hge4 := HO.out.ge
      have hH5 := hgr.blk HH.out (fun e => by have := (hge4 _ e).1; omega)
      have hB5 := hgr.toBelow HB.out (by omega) (fun q hq => by have := (hge4 _ hq).1; omega)
      have hs5 := hgr.1.size
      rw [← bv_append, show l ++ 128 :: (List.replicate (zerosOf l.length) 0 ++ be8 0) ++ be8 (8 * l.length) = padL l from by simp [padL]] at hO5
      have hP : (padL l).length = N + 8 + 8 := by have := hO5.len; simpa [bv] using this
      obtain ⟨P, hPe⟩ : ∃ P, P = N + 8 + 8 := ⟨_, rfl⟩
      have hPd : P % 128 = 0 := by have := (padL_len l).1; omega
      have hPl : P ≤ 100300 := by omega
      rw [← hPe] at hO5 hP
      obtain ⟨g5, c5, rfl, hg5, hlt5, hnc5, hcm5, _⟩ := hO5.form (by omega)
      have hcm5 : c5 ≤ 9223372036854775807 := by unfold maxLen at hcm5; omega
      have HO := Lib.hid hO5
      have HH := Lib.hid hH5
      have HB := Lib.hid hB5
      have HPl := Lib.hid hP
      clear hO5 hH5 hB5 hgr hg hat hge4 hP hPe HOB HG8
      go_wp2_with fail
      refine (constants_r _).mono ?_
      rintro e w6 ⟨gK, rfl, hK, hgK, hb6⟩
      have hO6 : OwnC w6 (w.heap.size + 1) 1 (.slice (some ⟨g5, 0, none⟩) P c5) P (bv (padL l)) := HO.out.below hb6
      have hH6 : Blk w6 w.heap.size 57 (av start) := HH.out.below hb6 HH.out.lt
      have hB6 : Below w.heap.size w w6 := HB.out.trans (hb6.mono (by omega))
      have hs6 := hb6.size
      have HO := Lib.hid hO6
      have HH := Lib.hid hH6
      have HB := Lib.hid hB6
      have HK := Lib.hid hK
      have HGK := Lib.hid (show w.heap.size < gK ∧ g5 < gK ∧ gK < w6.heap.size by have := hK.lt; omega)
      clear hO6 hH6 hB6 hK hb6 hgK HL HN HM
      go_wp2_with fail
      go_loopw [4] (fun v wr => ∃ (k c : Nat) (a : Addr), 128 * k ≤ P ∧ v = .slice (some a) (P - 128 * k) c ∧ (128 * k < P → a = ⟨g5, 128 * k, none⟩ ∧ c = c5 - 128 * k) ∧ Blk wr w.heap.size 57 (av (pressAll start (padL l) k)) ∧ OwnC wr (w.heap.size + 1) 1 (.slice (some ⟨g5, 0, none⟩) P c5) P (bv (padL l)) ∧ Blk wr gK 57 (cellsN 80 konst) ∧ Below w.heap.size w wr ∧ gK < wr.heap.size) (fun v _ => vlen v)
      case atStart => exact ⟨0, c5, ⟨g5, 0, none⟩, by omega, rfl, fun _ => ⟨rfl, rfl⟩, HH.out, HO.out, HK.out, HB.out, HGK.out.2.2⟩
      case round =>
        obtain ⟨k, c, a, hk, rfl, ha, hH, hO, hK, hb, hsz⟩ := hrel
        have hgk := HGK.out
        rcases Nat.lt_or_ge (128 * k) P with hlt | hge
        · obtain ⟨rfl, rfl⟩ := ha hlt
          have hD : (((padL l).drop (128 * k)).take 128).length = 128 := by rw [List.length_take, List.length_drop, HPl.out]; omega
          have hVo := pressAll_ok start_ok (padL l) k
          have hnext : pressAll start (padL l) (k + 1) = addV (pressAll start (padL l) k) (rounds (wordsL (((padL l).drop (128 * k)).take 128) 80) (pressAll start (padL l) k) 80) := rfl
          have hDc : ∀ j (hj : j < (((padL l).drop (128 * k)).take 128).length), wr.cell? ⟨g5, 128 * k + j, none⟩ = some (.int .u8 ((((padL l).drop (128 * k)).take 128)[j].toNat : Int)) := by
            intro j hj
            obtain ⟨g7, c7, e7, _, _, _, _, hx7, _⟩ := hO.form (by omega)
            cases e7
            refine hx7 _ _ ?_
            have : 128 * k + j < (padL l).length := by rw [HPl.out]; omega
            simp [bv, this]
          obtain ⟨I, hI⟩ : ∃ I, I = 128 * k := ⟨_, rfl⟩
          obtain ⟨M, hM⟩ : ∃ M, M = P - I := ⟨_, rfl⟩
          obtain ⟨C, hC⟩ : ∃ C, C = c5 - I := ⟨_, rfl⟩
          have hP2 : I + 128 ≤ P := by omega
          have hM2 : 128 ≤ M ∧ M ≤ C ∧ C ≤ 9223372036854775807 := by omega
          have hMP : M ≤ 100300 := by omega
          rw [← hI] at hDc hD hnext ⊢
          rw [← hM, ← hC]
          have HIx := Lib.hid (And.intro hI (And.intro hM hC))
          generalize ((padL l).drop I).take 128 = D at *
          generalize hV : pressAll start (padL l) k = V at *
          have HNX := Lib.hid hnext
          have HV := Lib.hid hV
          have HVo := Lib.hid hVo
          have HDc := Lib.hid hDc
          have HD := Lib.hid hD
          have HO := Lib.hid hO
          have HH := Lib.hid hH
          have HK := Lib.hid hK
          have HB := Lib.hid hb
          obtain ⟨wo, hwo⟩ : ∃ wo, wo = wr := ⟨_, rfl⟩
          rw [← hwo] at HDc HO HH HK HB hsz ⊢
          clear hnext hV hVo hDc hD hO hH hK hb hI hM hC ha hwo hk hlt
          obtain ⟨hM0, hMC, hC9⟩ := hM2
          have hdM : decide (0 < M) = true := decide_eq_true (by omega)
          have hdM2 : decide ((M : Int) > 0) = true := decide_eq_true (by omega)
          go_wp2_with fail
          go_loopw [6, 7] (fun wv t ws => ∃ q : Nat, q ≤ 16 ∧ t = .int .i64 q ∧ OwnC ws wo.heap.size 1 wv q (nv (wordsL D q)) ∧ Below wo.heap.size wo ws) (fun _ t _ => 16 - (intOf t).toNat)
          case atStart => exact ⟨0, by omega, rfl, OwnC.nil_ _ _ _, Below.refl _ _⟩
          case round =>
            obtain ⟨q, hq, rfl, hW, hbs⟩ := hrel
            rcases Nat.lt_or_ge q 16 with hq16 | hq16
            · as_aux_lemma =>
              have hcells : ∀ m, m < 8 → ∃ hm : m < ((D.drop (8 * q)).take 8).length, wr.cell? ⟨g5, I + (8 * q + m), none⟩ = some (.int .u8 ((((D.drop (8 * q)).take 8)[m].toNat : Nat) : Int)) := by
                intro m hm
                obtain ⟨h1, h2⟩ := byte_at D q m hm (by rw [HD.out]; omega)
                refine ⟨h1, ?_⟩
                rw [h2]
                exact (hbs.cell (p := ⟨g5, I + (8 * q + m), none⟩) (by simp; omega)).trans (HDc.out _ (by rw [HD.out]; omega))
              have hlow := wordsL_low D q hq16
              have hEl : ((D.drop (8 * q)).take 8).length = 8 := by rw [List.length_take, List.length_drop, HD.out]; omega
              generalize (D.drop (8 * q)).take 8 = E at *
              obtain ⟨wq, hwq⟩ : ∃ wq, wq = wr := ⟨_, rfl⟩
              rw [← hwq] at hcells hW hbs ⊢
              have HC := Lib.hid hcells
              have HLow := Lib.hid hlow
              have HEl := Lib.hid hEl
              have HW := Lib.hid hW
              have HBS := Lib.hid hbs
              have hwqs := hbs.size
              clear hcells hlow hEl hW hbs hwq
              go_wp2_with fail
              go_loopw [8, 9] (fun x i wt => ∃ m : Nat, m ≤ 8 ∧ i = .int .i64 m ∧ x = .int .u64 ((num8 (E.take m) : Nat) : Int) ∧ num8 (E.take m) < 256 ^ m ∧ wt = wq) (fun _ i _ => 8 - (intOf i).toNat)
              case atStart => exact ⟨0, by omega, rfl, by simp [num8], by simp [num8], rfl⟩
              case round =>
                obtain ⟨m, hm, rfl, rfl, hlt, rfl⟩ := hrel
                rcases Nat.lt_or_ge m 8 with hm8 | hm8
                · obtain ⟨hmE, hcm⟩ := HC.out m hm8
                  have hs := num8_step E m hmE
                  have hb := num8_bound (num8 (E.take m)) m E[m] hlt
                  have hc := num8_code (num8 (E.take m)) m E[m] hm8 hlt
                  generalize num8 (E.take m) = X at *
                  generalize E[m] = b at *
                  have HS := Lib.hid hs
                  have HBd := Lib.hid hb
                  have HCd := Lib.hid hc
                  clear hs hb hc
                  go_wp2_with fail
                  exact ⟨⟨m + 1, by omega, by go_num, by rw [HCd.out, HS.out], by rw [HS.out]; exact HBd.out, trivial⟩, by simp [intOf]; omega⟩
                · have hXe : num8 (E.take m) = num8 E := by rw [List.take_of_length_le (by rw [HEl.out]; exact hm8)]
                  rw [hXe]
                  clear hXe hlt
                  generalize num8 E = X at *
                  go_wp2_with (at_builtin; refine wpList_append_C _ rfl (.tmp 68) (.tmp 70) 69 69 rfl 57 j0 (.int .u64 0) 1 Try.underlying69 JI.out JZ0.out JZ1.out rfl (by decide) wo.heap.size _ q _ rfl (HW.out.alloc _) (.slice (some ⟨wr.heap.size, 0, none⟩) 1 1) rfl 1 (nv [X]) ?c1 ?c3 ?c4 ?c5 ?_)
                  case c1 => exact Src.one Try.underlying69 (by simp) rfl
                  case c3 => unfold maxLen; omega
                  case c4 => rw [JZ2.out]; omega
                  case c5 => simp; omega
                  intro wv' w1 hW' hg hat
                  have hb1 : Below wo.heap.size wo w1 := gb_own (HBS.out.alloc hwqs _) (Nat.le_refl _) (by simp; omega) (HW.out.alloc _) hg
                  rw [← nv_append, ← HLow.out] at hW'
                  have HW' := Lib.hid hW'
                  have HB' := Lib.hid hb1
                  clear hW' hb1 hg hat
                  go_wp2_with fail
                  refine ⟨?_, by simp [intOf]; omega⟩
                  exact ⟨q + 1, by omega, by go_num, HW'.out, HB'.out⟩
            · have hq6 : q = 16 := by omega
              rw [hq6] at hW
              have HW := Lib.hid hW
              have HBS := Lib.hid hbs
              obtain ⟨wp, hwp⟩ : ∃ wp, wp = wr := ⟨_, rfl⟩
              rw [← hwp] at HW HBS ⊢
              clear hwp hW hbs hq6
              go_wp2_with fail
              go_loopw [6, 10] (fun wv t ws => ∃ q : Nat, 16 ≤ q ∧ q ≤ 80 ∧ t = .int .i64 q ∧ OwnC ws wo.heap.size 1 wv q (nv (wordsL D q)) ∧ Below wo.heap.size wo ws) (fun _ t _ => 80 - (intOf t).toNat)
              case atStart => exact ⟨16, by omega, by omega, rfl, HW.out, HBS.out⟩
              case round =>
                obtain ⟨q, hq0, hq1, rfl, hW, hbs⟩ := hrel
                obtain ⟨gw, cw, rfl, hgw, hltw, hcw, hcm, hxw, _⟩ := hW.form (by omega)
                rcases Nat.lt_or_ge q 80 with hq80 | hq80
                · have hhigh := wordsL_high D q hq0
                  have hWl := fun j => wordsL_lt D q j
                  have hcell : ∀ j, j < q → wr.cell? ⟨gw, j, none⟩ = some (.int .u64 (((wordsL D q).getD j 0 : Nat) : Int)) := fun j hj => hxw j _ (nv_at _ j (by rw [wordsL_len]; exact hj))
                  have e15 : (q : Int) - 15 = ((q - 15 : Nat) : Int) := by omega
                  have e2 : (q : Int) - 2 = ((q - 2 : Nat) : Int) := by omega
                  have e16 : (q : Int) - 16 = ((q - 16 : Nat) : Int) := by omega
                  have e7 : (q : Int) - 7 = ((q - 7 : Nat) : Int) := by omega
                  have b15 : ((q - 15 : Nat) : Int) < (q : Int) := by omega
                  have b2 : ((q - 2 : Nat) : Int) < (q : Int) := by omega
                  have b16 : ((q - 16 : Nat) : Int) < (q : Int) := by omega
                  have b7 : ((q - 7 : Nat) : Int) < (q : Int) := by omega
                  have w16 : IntKind.i64.wrap ((q - 16 : Nat) : Int) = ((q - 16 : Nat) : Int) := by rw [IntKind.wrap_i64]; omega
                  have w7 : IntKind.i64.wrap ((q - 7 : Nat) : Int) = ((q - 7 : Nat) : Int) := by rw [IntKind.wrap_i64]; omega
                  have i15 := hcell (q - 15) (by omega)
                  have i2 := hcell (q - 2) (by omega)
                  have i16 := hcell (q - 16) (by omega)
                  have i7 := hcell (q - 7) (by omega)
                  have l15 := hWl (q - 15)
                  have l2 := hWl (q - 2)
                  generalize (wordsL D q).getD (q - 15) 0 = A15 at *
                  generalize (wordsL D q).getD (q - 2) 0 = A2 at *
                  generalize (wordsL D q).getD (q - 16) 0 = A16 at *
                  generalize (wordsL D q).getD (q - 7) 0 = A7 at *
                  have HW := Lib.hid hW
                  have HBS := Lib.hid hbs
                  have HHi := Lib.hid hhigh
                  have hws := hbs.size
                  clear hW hbs hhigh hWl hcell hxw hcm hcw hgw
                  go_wp2_with fail
                  refine wp_region_quiet_lit (by as_aux_lemma => kernel_rfl) (by as_aux_lemma => kernel_rfl) ?_
                  repeat (go_big_quiet_step (first | (go_at_call 40; refine Calls.quiet_of (turn_q _ _ l15 (by decide) (by decide) _))))
                  refine wpQuiet_nil ?_
                  intro _ hw'
                  obtain ⟨nq, hw''⟩ := hw'
                  subst hw''
                  rw [s0_code _ l15]
                  generalize hq1 : wr.drewN nq = w1q
                  replace i2 := cell_dr hq1 i2
                  replace i16 := cell_dr hq1 i16
                  replace i7 := cell_dr hq1 i7
                  have hW1 : OwnC w1q wo.heap.size 1 (.slice (some ⟨gw, 0, none⟩) q cw) q (nv (wordsL D q)) := by rw [← hq1]; exact HW.out.below ⟨rfl, rfl, rfl, Nat.le_refl _, fun _ _ => rfl⟩
                  have hB1 : Below wo.heap.size wo w1q := by rw [← hq1]; exact ⟨HBS.out.os, HBS.out.tape, HBS.out.output, HBS.out.size, HBS.out.block⟩
                  have HW := Lib.hid hW1
                  have HBS := Lib.hid hB1
                  clear hW1 hB1 hq1 i15
                  go_wp2_with fail
                  refine wp_region_quiet_lit (by as_aux_lemma => kernel_rfl) (by as_aux_lemma => kernel_rfl) ?_
                  repeat (go_big_quiet_step (first | (go_at_call 40; refine Calls.quiet_of (turn_q _ _ l2 (by decide) (by decide) _))))
                  refine wpQuiet_nil ?_
                  intro _ hw'
                  obtain ⟨nq, hw''⟩ := hw'
                  subst hw''
                  rw [s1_code _ l2]
                  generalize hq2 : w1q.drewN nq = w2q
                  replace i16 := cell_dr hq2 i16
                  replace i7 := cell_dr hq2 i7
                  have hW1 : OwnC w2q wo.heap.size 1 (.slice (some ⟨gw, 0, none⟩) q cw) q (nv (wordsL D q)) := by rw [← hq2]; exact HW.out.below ⟨rfl, rfl, rfl, Nat.le_refl _, fun _ _ => rfl⟩
                  have hB1 : Below wo.heap.size wo w2q := by rw [← hq2]; exact ⟨HBS.out.os, HBS.out.tape, HBS.out.output, HBS.out.size, HBS.out.block⟩
                  have hws2 := hB1.size
                  have HW := Lib.hid hW1
                  have HBS := Lib.hid hB1
                  clear hW1 hB1 hq2 i2
                  generalize s0 A15 = S0 at *
                  generalize s1 A2 = S1 at *
                  go_wp2_with fail
                  have happ := run_append_C (P := Try.prog) (w2q.alloc (.cells #[.int .u64 (IntKind.u64.wrap (IntKind.u64.wrap (IntKind.u64.wrap ((A16 : Int) + A7) + (S0 : Int)) + (S1 : Int)))] 57)).drew 69 69 69 57 j0 (.int .u64 0) 1 Try.underlying69 JI.out JZ0.out JZ1.out rfl (by decide) wo.heap.size (.slice (some ⟨gw, 0, none⟩) q cw) q (nv (wordsL D q)) (HW.out.alloc _).drew (.slice (some ⟨w2q.heap.size, 0, none⟩) 1 1) 1 [.int .u64 (IntKind.u64.wrap (IntKind.u64.wrap (IntKind.u64.wrap ((A16 : Int) + A7) + (S0 : Int)) + (S1 : Int)))] (Src.one Try.underlying69 (by simp) rfl) (by unfold maxLen; omega) (by rw [JZ2.out]; omega) (by simp; omega)
                  obtain ⟨wv', w1, hr, hO1, hg1, hat1⟩ := happ
                  have hB2 : Below wo.heap.size wo w1 := gb_own (HBS.out.alloc hws2 _).drew (Nat.le_refl _) (by simp; omega) (HW.out.alloc _).drew hg1
                  rw [add_code, add_code, add_code, show nv (wordsL D q) ++ [Value.int .u64 ((add64 (add64 (add64 A16 A7) S0) S1 : Nat) : Int)] = nv (wordsL D (q + 1)) from by rw [HHi.out, nv_append]; rfl] at hO1
                  have HO1 := Lib.hid hO1
                  have HB2 := Lib.hid hB2
                  clear hO1 hg1 hat1 hB2
                  go_region_law (refine step_append_eq rfl _ _ _ _ rfl _ _ rfl rfl hr ?_)
                  all_goals go_wp2_with fail
                  all_goals exact ⟨⟨q + 1, by omega, by omega, by go_num, HO1.out, HB2.out⟩, by simp [intOf]; omega⟩
                · have hq9 : q = 80 := by omega
                  have hwq9 : nv (wordsL D q) = nv (wordsL D 80) := by rw [hq9]
                  rw [hwq9] at hW
                  have HW := Lib.hid hW
                  have HBS := Lib.hid hbs
                  obtain ⟨wp, hwp⟩ : ∃ wp, wp = wr := ⟨_, rfl⟩
                  rw [← hwp] at HW HBS hltw ⊢
                  have hwps := HBS.out.size
                  have hH5 : Blk wp w.heap.size 57 (av V) := HH.out.below HBS.out HH.out.lt
                  have HH5 := Lib.hid hH5
                  clear hwp hW hbs hq9 hH5 hxw hwq9
                  go_wp2_with (at_builtin; refine wpList_append_C _ rfl (.tmp 134) (.tmp 135) 69 69 rfl 57 j0 (.int .u64 0) 1 Try.underlying69 JI.out JZ0.out JZ1.out rfl (by decide) wo.heap.size (.slice none 0 0) 0 [] rfl (OwnC.nil_ _ _ _) (.slice (some ⟨w.heap.size, 0, none⟩) 8 8) rfl 8 (nv V.list) ?c1 ?c3 ?c4 ?c5 ?_)
                  case c1 =>
                    refine Src.ofSlice wp Try.underlying69 ⟨w.heap.size, 0, none⟩ 8 8 (nv V.list) rfl (fun j u hu => ?_) (nv_one _)
                    have hadd : (Addr.mk w.heap.size 0 none).add j = ⟨w.heap.size, j, none⟩ := by unfold Addr.add; split <;> simp_all
                    rw [hadd]
                    exact HH5.out.at_ j (by rw [← Array.getElem?_toList, av_nv]; exact hu)
                  case c3 => unfold maxLen; omega
                  case c4 => rw [JZ2.out]; omega
                  case c5 => omega
                  intro vv w7 hVv hg hat
                  have hb7 : Below wo.heap.size wo w7 := gb_own HBS.out (Nat.le_refl _) hwps (OwnC.nil_ wp wo.heap.size 1) hg
                  have hb7p : Below wp.heap.size wp w7 := (Below.refl _ _).grown hg (Nat.le_refl _) (by simp [Value.ownBlock])
                  have hW7 : OwnC w7 wo.heap.size 1 (.slice (some ⟨gw, 0, none⟩) q cw) q (nv (wordsL D 80)) := HW.out.below hb7p
                  have hK7 : Blk w7 gK 57 (cellsN 80 konst) := HK.out.below hb7 HK.out.lt
                  have hH7 : Blk w7 w.heap.size 57 (av V) := HH.out.below hb7 HH.out.lt
                  have hb7s : wo.heap.size ≤ w7.heap.size := hb7.size
                  have hlt7 : gw < w7.heap.size ∧ gK < w7.heap.size ∧ w.heap.size < w7.heap.size := ⟨Nat.lt_of_lt_of_le hltw hb7p.size, hK7.lt, hH7.lt⟩
                  have hwc : ∀ j, j < 80 → w7.cell? ⟨gw, j, none⟩ = some (.int .u64 (((wordsL D 80).getD j 0 : Nat) : Int)) := by
                    intro j hj
                    obtain ⟨g9, c9, e9, _, _, _, _, hx9, _⟩ := hW7.form (by omega)
                    cases e9
                    exact hx9 j _ (nv_at _ j (by rw [wordsL_len]; exact hj))
                  have hwl := fun j => wordsL_lt D 80 j
                  have HNR : ∀ n, Hid (rounds (wordsL D 80) V (n + 1) = rnd (rounds (wordsL D 80) V n) (konst.getD n 0) ((wordsL D 80).getD n 0)) := fun n => Lib.hid rfl
                  have HRok : ∀ n, Hid ((rounds (wordsL D 80) V n).ok) := fun n => Lib.hid (rounds_ok _ HVo.out n)
                  have HVv := Lib.hid (show OwnC w7 wo.heap.size 1 vv 8 (nv (rounds (wordsL D 80) V 0).list) from hVv)
                  generalize hRR : rounds (wordsL D 80) V = R at *
                  have HRR := Lib.hid hRR
                  generalize wordsL D 80 = wl at *
                  have HK7 := Lib.hid hK7
                  have HH7 := Lib.hid hH7
                  have HB7 := Lib.hid hb7
                  have HWc := Lib.hid hwc
                  have HWl := Lib.hid hwl
                  have hq80' : 80 ≤ q ∧ q ≤ 9223372036854775807 := ⟨hq80, by omega⟩
                  clear hb7 hb7p hVv hW7 hK7 hH7 hwc hwl hRR hg hat HBS HW HH5
                  go_wp2_with fail
                  go_loopw [13, 14] (fun vv t ws => ∃ n : Nat, n ≤ 80 ∧ t = .int .i64 n ∧ OwnC ws wo.heap.size 1 vv 8 (nv (R n).list) ∧ Below w7.heap.size w7 ws) (fun _ t _ => 80 - (intOf t).toNat)
                  case atStart => exact ⟨0, by omega, rfl, HVv.out, Below.refl _ _⟩
                  case round =>
                    obtain ⟨n, hn, rfl, hO9, hb9⟩ := hrel
                    obtain ⟨gv, cv, rfl, hgv, hltv, hcv, hcmv, hxv, _⟩ := hO9.form (by omega)
                    rcases Nat.lt_or_ge n 80 with hn80 | hn80
                    · have hok := (HRok n).out
                      have hnx := (HNR n).out
                      have hwl := HWl.out n
                      have hkk : wr.cell? ⟨gK, n, none⟩ = some (.int .u64 ((konst.getD n 0 : Nat) : Int)) := (HK7.out.below hb9 hlt7.2.1).at_ n (cellsN_at _ _ _ hn80)
                      have hww : wr.cell? ⟨gw, n, none⟩ = some (.int .u64 ((wl.getD n 0 : Nat) : Int)) := (hb9.cell (p := ⟨gw, n, none⟩) hlt7.1).trans (HWc.out n hn80)
                      generalize hR2 : R (n + 1) = V2 at *
                      generalize R n = V at *
                      generalize wl.getD n 0 = X at *
                      generalize konst.getD n 0 = Y at *
                      have c0 : wr.cell? ⟨gv, 0, none⟩ = some (.int .u64 (V.a : Int)) := hxv 0 _ rfl
                      have c1 : wr.cell? ⟨gv, 1, none⟩ = some (.int .u64 (V.b : Int)) := hxv 1 _ rfl
                      have c2 : wr.cell? ⟨gv, 2, none⟩ = some (.int .u64 (V.c : Int)) := hxv 2 _ rfl
                      have c3 : wr.cell? ⟨gv, 3, none⟩ = some (.int .u64 (V.d : Int)) := hxv 3 _ rfl
                      have c4' : wr.cell? ⟨gv, 4, none⟩ = some (.int .u64 (V.e : Int)) := hxv 4 _ rfl
                      have c5' : wr.cell? ⟨gv, 5, none⟩ = some (.int .u64 (V.f : Int)) := hxv 5 _ rfl
                      have c6 : wr.cell? ⟨gv, 6, none⟩ = some (.int .u64 (V.g : Int)) := hxv 6 _ rfl
                      have c7 : wr.cell? ⟨gv, 7, none⟩ = some (.int .u64 (V.h : Int)) := hxv 7 _ rfl
                      have hSg : IntKind.u64.signed = false := rfl
                      have hMx : IntKind.u64.max = 18446744073709551615 := rfl
                      have HB9 := Lib.hid hb9
                      have HX := Lib.hid hnx
                      have HOk := Lib.hid hok
                      have HR2 := Lib.hid hR2
                      have hs9 := hb9.size
                      have hnq : (n : Int) < (q : Int) := by omega
                      clear hb9 hnx hok hR2 hxv hO9 hcv hcmv hgv
                      go_wp2_with fail
                      refine wp_region_quiet_lit (by as_aux_lemma => kernel_rfl) (by as_aux_lemma => kernel_rfl) ?_
                      repeat (go_big_quiet_step (first | (go_at_call 40; refine Calls.quiet_of (turn_q _ _ HOk.out.2.2.2.2.1 (by decide) (by decide) _))))
                      refine wpQuiet_nil ?_
                      intro _ hw'
                      obtain ⟨nq, hw''⟩ := hw'
                      subst hw''
                      generalize hq1 : wr.drewN nq = w1q
                      replace c0 := cell_dr hq1 c0
                      replace c1 := cell_dr hq1 c1
                      replace c2 := cell_dr hq1 c2
                      replace c3 := cell_dr hq1 c3
                      replace c4' := cell_dr hq1 c4'
                      replace c5' := cell_dr hq1 c5'
                      replace c6 := cell_dr hq1 c6
                      have hB1 : Below w7.heap.size w7 w1q := by rw [← hq1]; exact ⟨HB9.out.os, HB9.out.tape, HB9.out.output, HB9.out.size, HB9.out.block⟩
                      have HB9 := Lib.hid hB1
                      clear hq1 hB1 c7 hkk hww
                      rw [xx_code V Y X HOk.out]
                      go_wp2_with fail
                      refine wp_region_quiet_lit (by as_aux_lemma => kernel_rfl) (by as_aux_lemma => kernel_rfl) ?_
                      repeat (go_big_quiet_step (first | (go_at_call 40; refine Calls.quiet_of (turn_q _ _ HOk.out.1 (by decide) (by decide) _))))
                      refine wpQuiet_nil ?_
                      intro _ hw'
                      obtain ⟨nq, hw''⟩ := hw'
                      subst hw''
                      generalize hq2 : w1q.drewN nq = w2q
                      replace c0 := cell_dr hq2 c0
                      replace c1 := cell_dr hq2 c1
                      replace c2 := cell_dr hq2 c2
                      replace c3 := cell_dr hq2 c3
                      replace c4' := cell_dr hq2 c4'
                      replace c5' := cell_dr hq2 c5'
                      replace c6 := cell_dr hq2 c6
                      have hB1 : Below w7.heap.size w7 w2q := by rw [← hq2]; exact ⟨HB9.out.os, HB9.out.tape, HB9.out.output, HB9.out.size, HB9.out.block⟩
                      have hs2 := hB1.size
                      have HB9 := Lib.hid hB1
                      clear hq2 hB1
                      rw [yy_code V HOk.out]
                      go_wp2_with fail
                      refine region_tail_q 26 (by as_aux_lemma => kernel_rfl) (by as_aux_lemma => kernel_rfl) ?_
                      simp only [List.take_succ_cons, List.take_zero, List.drop_succ_cons, List.drop_zero]
                      repeat (go_big_quiet_step (fail))
                      refine wpQuiet_nil ?_
                      go_wp2_with fail
                      have hset : ∀ A, A = av V2 → OwnC (w2q.alloc (.cells A 57)).drew wo.heap.size 1 (.slice (some ⟨w2q.heap.size, 0, none⟩) 8 8) 8 (nv V2.list) := fun A h => by
                        rw [h, ← av_nv]
                        exact (OwnC.lit w2q wo.heap.size 8 57 _ (by have := hb7s; omega) rfl (by decide)).drew
                      refine ⟨⟨n + 1, by omega, by go_num, ?_, (HB9.out.alloc hs2 _).drew⟩, by simp [intOf]; omega⟩
                      rw [HR2.out]
                      exact hset _ ((rnd_cells V Y X).trans (congrArg av HX.out.symm))
                    · have hq8a : n = 80 := by omega
                      have hkp : addV V (R 80) = pressAll start (padL l) (k + 1) := by rw [HNX.out, ← HRR.out]
                      rw [hq8a] at hO9
                      have hH9 : Blk wr w.heap.size 57 (av V) := HH7.out.below hb9 hlt7.2.2
                      have hB9 : Below wo.heap.size wo wr := HB7.out.trans (hb9.mono hb7s)
                      obtain ⟨w9, hw9⟩ : ∃ w9, w9 = wr := ⟨_, rfl⟩
                      rw [← hw9] at hO9 hH9 hB9 hltv ⊢
                      have hvc : ∀ j, j < 8 → w9.cell? ⟨gv, j, none⟩ = some (.int .u64 (((R 80).list.getD j 0 : Nat) : Int)) := by
                        intro j hj
                        obtain ⟨g9, c9, e9, _, _, _, _, hx9, _⟩ := hO9.form (by omega)
                        cases e9
                        exact hx9 j _ (nv_at _ j hj)
                      generalize R 80 = V2 at *
                      have HKP := Lib.hid hkp
                      have HVC := Lib.hid hvc
                      have HH9 := Lib.hid hH9
                      have HB9 := Lib.hid hB9
                      have hgvh : w.heap.size < gv := by omega
                      clear hkp hvc hH9 hB9 hO9 hxv hw9 hb9 hq8a hcv hcmv hgv
                      go_wp2_with fail
                      go_loopw [19] (fun i ws => ∃ n : Nat, n ≤ 8 ∧ i = .int .i64 n ∧ Blk ws w.heap.size 57 (mixC V V2 n) ∧ w9.grownBy ws (some w.heap.size)) (fun i _ => 8 - (intOf i).toNat)
                      case atStart => exact ⟨0, by omega, rfl, by rw [mixC_zero]; exact HH9.out, gb_refl _ _⟩
                      case round =>
                        obtain ⟨m, hm, rfl, hMx, hg⟩ := hrel
                        rcases Nat.lt_or_ge m 8 with hlt | hge
                        · have c0 := hMx.at_ m (mixC_at V V2 m m hlt)
                          rw [if_neg (Nat.lt_irrefl m)] at c0
                          have c1 : wr.cell? ⟨gv, m, none⟩ = some (.int .u64 ((V2.list.getD m 0 : Nat) : Int)) := (hg.cell (HVC.out m hlt) (by simp; omega))
                          have hfr := hMx.frozen m
                          have hST := hMx.set_ m (.int .u64 ((add64 (V.list.getD m 0) (V2.list.getD m 0) : Nat) : Int))
                          rw [mixC_set V V2 m hlt] at hST
                          have hGS : w9.grownBy (wr.setCell ⟨w.heap.size, m, none⟩ (.int .u64 ((add64 (V.list.getD m 0) (V2.list.getD m 0) : Nat) : Int))) (some w.heap.size) := gb_setCell hg (Or.inl rfl) _
                          have hac := add_code (V.list.getD m 0) (V2.list.getD m 0)
                          generalize V.list.getD m 0 = A at *
                          generalize V2.list.getD m 0 = B at *
                          have HST := Lib.hid hST
                          have HGS := Lib.hid hGS
                          have HAC := Lib.hid hac
                          have hk8 : (m : Int) < 8 := by omega
                          clear hST hGS hac hMx hg
                          go_wp2_with fail
                          refine region_tail_q 12 (by as_aux_lemma => kernel_rfl) (by as_aux_lemma => kernel_rfl) ?_
                          simp only [List.take_succ_cons, List.take_zero, List.drop_succ_cons, List.drop_zero]
                          repeat (go_big_quiet_step (fail))
                          refine wpQuiet_nil ?_
                          rw [HAC.out]
                          go_wp2_with fail
                          exact ⟨⟨m + 1, by omega, by go_num, HST.out.drew, gb_drew HGS.out⟩, by simp [intOf]; omega⟩
                        · have hm8 : m = 8 := by omega
                          rw [hm8, mixC_eight, HKP.out] at hMx
                          have hB10 : Below w.heap.size w wr := below_gb (HB.out.trans (HB9.out.mono (by omega))) hg (Nat.le_refl _) (by have := HH9.out.lt; omega)
                          have hO9 : OwnC w9 (w.heap.size + 1) 1 (.slice (some ⟨g5, 0, none⟩) P c5) P (bv (padL l)) := HO.out.below HB9.out
                          have hO10 : OwnC wr (w.heap.size + 1) 1 (.slice (some ⟨g5, 0, none⟩) P c5) P (bv (padL l)) := hO9.kept hg (.inr (by simp [Value.ownBlock]; omega))
                          have hK10 : Blk wr gK 57 (cellsN 80 konst) := (HK.out.below HB9.out (by omega)).grown hg (by simp; omega)
                          have hs10 : gK < wr.heap.size := hK10.lt
                          have HR1 := Lib.hid hMx
                          have HR2 := Lib.hid hO10
                          have HR3 := Lib.hid hK10
                          have HR4 := Lib.hid hB10
                          obtain ⟨hI1, hI2, hI3⟩ := HIx.out
                          have HE := Lib.hid (show M - 128 = P - 128 * (k + 1) ∧ 128 * (k + 1) ≤ P ∧ C - 128 = c5 - 128 * (k + 1) ∧ I + 128 = 128 * (k + 1) by omega)
                          have hM3 : (128 : Int) ≤ (M : Int) := by omega
                          clear hMx hO9 hO10 hK10 hB10 hg hm8 hI1 hI2 hI3
                          rcases Nat.lt_or_ge 128 C with hC1 | hC1
                          · have hne : ¬ C = 128 := by omega
                            go_wp2_with fail
                            refine ⟨⟨k + 1, C - 128, ⟨g5, I + 128, none⟩, HE.out.2.1, ?_, fun _ => ⟨?_, HE.out.2.2.1⟩, HR1.out, HR2.out, HR3.out, HR4.out, hs10⟩, ?_⟩
                            · rw [HE.out.1]
                            · rw [HE.out.2.2.2]
                            · show M - 128 < M; omega
                          · have hne : C = 128 := by omega
                            go_wp2_with fail
                            refine ⟨⟨k + 1, 0, ⟨g5, I, none⟩, HE.out.2.1, ?_, fun h => absurd h (by have := HE.out; omega), HR1.out, HR2.out, HR3.out, HR4.out, hs10⟩, ?_⟩
                            · rw [HE.out.1]
                            · show M - 128 < M; omega
        · have h0 : P - 128 * k = 0 := by omega
          have hkP : k = P / 128 := by omega
          have hfin : pressAll start (padL l) k = pressAll start (padL l) ((padL l).length / 128) := by rw [HPl.out, hkP]
          have hsum : bytesV (pressAll start (padL l) k) = S := by rw [← HSS.out]; unfold sumL; rw [hfin]
          rw [h0]
          clear hfin h0 ha
          generalize pressAll start (padL l) k = V at *
          have HSum := Lib.hid hsum
          have HH := Lib.hid hH
          have HB := Lib.hid hb
          clear hsum hO hK hkP hH hb
          go_wp2_with fail
          go_loopw [20, 21] (fun o i ws => ∃ n : Nat, n ≤ 8 ∧ i = .int .i64 n ∧ OwnC ws (w.heap.size + 1) 1 o (8 * n) (bv ((V.list.take n).flatMap be8)) ∧ Blk ws w.heap.size 57 (av V) ∧ Below w.heap.size w ws ∧ w.heap.size + 1 ≤ ws.heap.size) (fun _ i _ => 8 - (intOf i).toNat)
          case atStart => exact ⟨0, by omega, rfl, OwnC.nil_ _ _ _, HH.out, HB.out, by omega⟩
          case round =>
            obtain ⟨n, hn, rfl, hO, hH, hb, hs⟩ := hrel
            rcases Nat.lt_or_ge n 8 with hlt | hge
            · as_aux_lemma =>
              have c0 : wr.cell? ⟨w.heap.size, n, none⟩ = some (.int .u64 ((V.list.getD n 0 : Nat) : Int)) := hH.at_ n (by rw [av_list]; exact cellsN_at 8 _ _ hlt)
              have hbs := bytes_snoc V n hlt
              generalize V.list.getD n 0 = X at *
              have HO := Lib.hid hO
              have HH := Lib.hid hH
              have HB := Lib.hid hb
              have HBS := Lib.hid hbs
              have hk8 : (n : Int) < 8 := by omega
              clear hO hH hb hbs
              go_wp2_with fail
              refine (eight_any X _).mono ?_
              rintro e wA ⟨vA, rfl, hOA, hbA⟩
              have hO1 := HO.out.below hbA
              have hH1 := HH.out.below hbA HH.out.lt
              have hB1 := HB.out.trans (hbA.mono (by omega))
              have hsA := hbA.size
              have HO := Lib.hid hO1
              have HH := Lib.hid hH1
              have HB := Lib.hid hB1
              have HOA := Lib.hid hOA
              clear hO1 hH1 hB1 hOA hbA c0
              go_wp2_with (at_builtin; refine wpList_append_C _ rfl (.tmp 259) (.tmp 264) 37 37 rfl 5 i0 (.int .u8 0) 1 Try.underlying37 HI.out HZ0.out HZ1.out rfl (by decide) (w.heap.size + 1) _ (8 * n) _ rfl HO.out vA rfl 8 (bv (be8 X)) ?c1 ?c3 ?c4 ?c5 ?_)
              case c1 => exact Src.own Try.underlying37 HOA.out (bv_one _)
              case c3 => unfold maxLen; omega
              case c4 => rw [HZ2.out]; omega
              case c5 => omega
              intro o1 w1 hO1 hg hat
              have hge := HO.out.ge
              have hgr : Grew wA _ w1 o1 := Grew.step hg hat (Nat.le_refl _)
              have hH1 := hgr.blk HH.out (fun e => by have := (hge _ e).1; omega)
              have hB1 := hgr.toBelow HB.out (by omega) (fun q hq => by have := (hge _ hq).1; omega)
              have hs1 := hgr.1.size
              rw [← bv_append, ← HBS.out] at hO1
              have HO := Lib.hid hO1
              have HH := Lib.hid hH1
              have HB := Lib.hid hB1
              clear hO1 hH1 hB1 hgr hg hat hge HOA
              go_wp2_with fail
              exact ⟨⟨n + 1, by omega, by go_num, HO.out, HH.out, HB.out, by omega⟩, by simp [intOf]; omega⟩
            · have hn8 : n = 8 := by omega
              rw [hn8, show V.list.take 8 = V.list from rfl, show V.list.flatMap be8 = bytesV V from rfl, HSum.out] at hO
              obtain ⟨g9, c9, rfl, _, _, _, _, hx9, _⟩ := hO.form (by omega)
              have hlen := sumL_len l
              rw [HSS.out] at hlen
              have hcv := run_convert_bytes_back (P := Try.prog) wr 37 9 5 ⟨g9, 0, none⟩ c9 S Try.underlying37 Try.underlying5 Try.underlying9 (fun j hj => by
                have hadd : (Addr.mk g9 0 none).add j = ⟨g9, j, none⟩ := by unfold Addr.add; split <;> simp_all
                rw [hadd]
                refine hx9 j _ ?_
                simp [bv, hj])
              rw [hlen, show ByteArray.mk S.toArray = bs S from rfl] at hcv
              have HB := Lib.hid hb
              clear hlen hx9 hO hH hb hn8
              go_wp2_with fail
              go_ret
              exact ⟨rfl, HB.out⟩
theorem sum_r (l : List UInt8) (hl : l.length ≤ 100000) (w : World) :
    Calls Try.prog 32 #[.string (bs l)] w fun e w' => e = .returned (.string (bs (sumL l))) ∧ Below w.heap.size w w' := sum_r_any l hl _ (Lib.hid rfl) w
end Go.Proofs.Ytdmopbfckdadnaa
