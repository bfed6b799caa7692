/- The law on a cut. -/
import Derived.Test.YtnefjmgpbbgifaaM
namespace Go.Proofs.Ytnefjmgpbbgifaa
open Go.RowKit
attribute [local go_sem] bs_size bs_getElem bs_list bs_append

theorem cutB_eq (who : Int) (x : Pk) : cutB who x = ((x.f == who) || (x.t == who)) := by unfold cutB; rw [Bool.eq_iff_iff]; simp

set_option maxRecDepth 100000 in
set_option maxHeartbeats 3200000 in
theorem law_cut (A : Option Addr) (n c : Nat) (xs : List Pk) (who : Int) (w : World) (hx : Sl w 3 PkC A n c xs) :
    Calls Try.prog 8 #[.slice A n c, .int .i64 who] w fun e w' => e = .returned (.bool true) ∧ Below w.heap.size w w' := by
  have hn := hx.len
  have hmx := hx.max
  have hle := hx.le
  by_cases hbig : n > 100
  · have hd : decide ((n : Int) > 100) = true := decide_eq_true (by omega)
    go_enter Try.func8, Try.ntmps8
    go_wp2_with fail
    refine (new_ok 15 (by decide) (by decide) _).mono ?_
    rintro e w1 ⟨gN, rfl, hN, hb, hge⟩
    have HB := Lib.hid hb
    clear hN hb
    go_wp2_with fail
    refine (awake_any _).mono ?_
    rintro e w9 ⟨rfl, hb9⟩
    have hb10 := HB.out.trans (hb9.mono HB.out.size)
    go_wp2_with fail
    go_ret
    exact ⟨rfl, hb10⟩
  have hd : decide ((n : Int) > 100) = false := decide_eq_false (by omega)
  obtain ⟨i0, hi0, hz0, hz1, hz2⟩ := info_parts info30
  have HX := Lib.hid hx
  clear hx
  go_enter Try.func8, Try.ntmps8
  go_wp2_with fail
  refine (new_ok 15 (by decide) (by decide) _).mono ?_
  rintro e w1 ⟨gN, rfl, hN, hb, hge⟩
  have hN1 : Net w.heap.size w w1 gN 15 (([] : List Pk).length) _ [] := ⟨hN, hb, hge, fun g hg => by simp [Value.ownBlock] at hg, hb.size⟩
  have H1 := Lib.hid hN1
  clear hN hb hN1
  go_wp2_with fail
  go_loopw [7, 8, 9] (fun u x i wr => ∃ (k : Nat) (v : Value), k ≤ n ∧ i = .int .i64 k ∧ x = .int .i64 ((((xs.take k).filter (okPk 15)).length - (keptL who ((xs.take k).filter (okPk 15))).length : Nat) : Int) ∧ Net w.heap.size w wr gN 15 (((xs.take k).filter (okPk 15)).length) v ((xs.take k).filter (okPk 15)) ∧ Mine w.heap.size wr gN v u (keptL who ((xs.take k).filter (okPk 15)))) (fun _ _ i _ => n - (intOf i).toNat)
  case atStart => exact ⟨0, _, by omega, rfl, rfl, H1.out, ⟨⟨by simp [pcs, keptL], .inl ⟨rfl, rfl⟩⟩, fun g hg => by simp [Value.ownBlock] at hg, fun g hg => by simp [Value.ownBlock] at hg⟩⟩
  case round =>
    obtain ⟨k, v, hk, rfl, rfl, hR, hM⟩ := hrel
    rcases Nat.lt_or_ge k n with hlt | hge'
    · have hkl : k < xs.length := by omega
      obtain ⟨b, off, rfl, hbl, c0, c1, c2, hdl⟩ := Sl.pk_at HX.out hkl
      have hfl : ((xs.take k).filter (okPk 15)).length ≤ k := Nat.le_trans (List.length_filter_le _ _) (by rw [List.length_take]; omega)
      have htk := List.take_succ_eq_append_getElem hkl
      have hbel := hR.below
      have d0 := cell_below hbel hbl c0
      have d1 := cell_below hbel hbl c1
      have d2 := cell_below hbel hbl c2
      generalize hps : (xs.take k).filter (okPk 15) = ps at *
      have hyl : (keptL who ps).length ≤ ps.length := List.length_filter_le _ _
      obtain ⟨A2, c2', rfl⟩ := hM.slice
      generalize xs[k] = x at *
      cases hok : okPk 15 x with
      | false =>
        have hnext : (xs.take (k + 1)).filter (okPk 15) = ps := by rw [htk, List.filter_append, hps]; simp [hok]
        have HNx := Lib.hid hnext
        have HS := Lib.hid (send_no x hR (by omega) (by omega) (by omega) hdl hok)
        have HM := Lib.hid hM
        clear hR hM hnext htk hps hbel c0 c1 c2
        generalize hyy : (keptL who ps).length = yl at *
        have HY := Lib.hid hyy
        clear hyy
        go_wp2_with fail
        refine HS.out.mono ?_
        rintro e w2 ⟨v2, cc, hcc, rfl, hN2, hk2, hv2⟩
        have hcc2 : (cc != (0 : Int)) = true := by simp [bne, hcc]
        have hM2 := HM.out.step hk2 hv2
        have HN2 := Lib.hid hN2
        have HM2 := Lib.hid hM2
        clear hN2 hM2 hk2 hv2
        go_wp2_with fail
        exact ⟨⟨k + 1, v2, by omega, by go_num, by rw [HNx.out, HY.out], by rw [HNx.out]; exact HN2.out, by rw [HNx.out]; simpa [HY.out] using HM2.out⟩, by simp [intOf]; omega⟩
      | true =>
        have hnext : (xs.take (k + 1)).filter (okPk 15) = ps ++ [x] := by rw [htk, List.filter_append, hps]; simp [hok]
        have hka : keptL who (ps ++ [x]) = keptL who ps ++ (if cutB who x then [] else [x]) := by unfold keptL; rw [List.filter_append]; cases hcx : cutB who x <;> simp [hcx]
        have HKA := Lib.hid hka
        have HNx := Lib.hid hnext
        have HS := Lib.hid (send_ok x hR (by omega) (by omega) (by omega) hdl hok)
        have HM := Lib.hid hM
        have HC := Lib.hid (And.intro c0 (And.intro c1 c2))
        have HI0 := Lib.hid hi0
        have HZ0 := Lib.hid hz0
        have HZ1 := Lib.hid hz1
        have HZ2 := Lib.hid hz2
        clear hR hM hnext htk hps hbel c0 c1 c2 hi0 hz0 hz1 hz2 hka
        generalize hyy : (keptL who ps).length = yl at *
        have HY := Lib.hid hyy
        clear hyy
        go_wp2_with fail
        refine HS.out.mono ?_
        rintro e w2 ⟨v2, rfl, hN2, hk2, hv2⟩
        have hM2 := HM.out.step hk2 hv2
        have g0 := cell_below hN2.below hbl HC.out.1
        have g1 := cell_below hN2.below hbl HC.out.2.1
        have g2 := cell_below hN2.below hbl HC.out.2.2
        have HN2 := Lib.hid hN2
        have hM2' : Mine w.heap.size w2 gN v2 (.slice A2 yl c2') (keptL who ps) := by simpa [HY.out] using hM2
        have hown2 : w2.ownsRow 0 30 3 (.slice A2 yl c2') yl (pcs (keptL who ps)) := by have := hM2'.own; rwa [HY.out] at this
        have HO2 := Lib.hid hown2
        have HM2 := Lib.hid hM2'
        clear hN2 hM2 hM2' hk2 hv2 d0 d1 d2 hown2
        cases hA : (x.f == who) with
        | true =>
          go_wp2_with fail
          have ek : keptL who (ps ++ [x]) = keptL who ps := by rw [HKA.out, cutB_eq, hA]; simp
          exact ⟨⟨k + 1, v2, by omega, by go_num, by rw [HNx.out, ek, List.length_append, HY.out]; simp only [List.length_singleton]; go_num, by rw [HNx.out, List.length_append]; exact HN2.out, by rw [HNx.out, ek]; simpa [HY.out] using HM2.out⟩, by simp [intOf]; omega⟩
        | false =>
          cases hB : (x.t == who) with
          | true =>
            go_wp2_with fail
            have ek : keptL who (ps ++ [x]) = keptL who ps := by rw [HKA.out, cutB_eq, hA, hB]; simp
            exact ⟨⟨k + 1, v2, by omega, by go_num, by rw [HNx.out, ek, List.length_append, HY.out]; simp only [List.length_singleton]; go_num, by rw [HNx.out, List.length_append]; exact HN2.out, by rw [HNx.out, ek]; simpa [HY.out] using HM2.out⟩, by simp [intOf]; omega⟩
          | false =>
            go_wp2_with (at_builtin; refine wpList_append_lies _ rfl (.tmp 68) (.tmp 73) 22 rfl 0 30 i0 (.agg #[.int .i64 0, .int .i64 0, .string ⟨#[]⟩]) 3 32 Try.underlying22 HI0.out HZ0.out HZ1.out HZ2.out rfl (by decide) (.slice A2 yl c2') yl (pcs (keptL who ps)) rfl (own_alloc HO2.out _) ⟨w2.heap.size, 0, none⟩ 1 1 [.int .i64 x.f, .int .i64 x.t, .string (bs x.d)] rfl rfl (World.news_of_block (cs := #[.int .i64 x.f, .int .i64 x.t, .string (bs x.d)]) (t := 30) (fr := (0, 0)) (heap_alloc_new w2 _)) ?p1 (by decide) ?p2 ?p3 (Nat.zero_le _) (w2.heap.size + 1) ?p4 ?_)
            case p1 => simp [Value.oneCell']
            case p2 => simp only [maxLen]; omega
            case p3 => omega
            case p4 => simp
            intro g3 cap3 w3 hown3 hgrow3 hat3 hlt3
            have hkp : Keeps (fun i => (Value.slice A2 yl c2').ownBlock = some i) w2 w3 :=
              kp_trans (kp_below ((Below.refl _ w2).alloc (Nat.le_refl _) (.cells #[.int .i64 x.f, .int .i64 x.t, .string (bs x.d)] 30))) (kp_grown (S := fun i => (Value.slice A2 yl c2').ownBlock = some i) hgrow3 (fun i h => h)) (fun _ _ h => h)
            have hN3 := HN2.out.kp hkp (fun i hi => ⟨HM2.out.apart i hi, HM2.out.base i hi⟩)
            have hM3 : Mine w.heap.size w3 gN v2 (.slice (some ⟨g3, 0, none⟩) (yl + 1) cap3) (keptL who ps ++ [x]) := by
              refine ⟨?_, fun g hg => ?_, fun g hg => ?_⟩
              · rw [pcs_append, show pcs [x] = [.int .i64 x.f, .int .i64 x.t, .string (bs x.d)] from by simp [pcs, pc], List.length_append, HY.out]
                exact hown3
              · obtain rfl : g3 = g := by simpa [Value.ownBlock] using hg
                rcases hat3 with h | h
                · exact HM2.out.apart _ h
                · exact not_ns HN2.out.net (by omega)
              · obtain rfl : g3 = g := by simpa [Value.ownBlock] using hg
                rcases hat3 with h | h
                · exact HM2.out.base _ h
                · have := HN2.out.sz; omega
            have HN3 := Lib.hid hN3
            have HM3 := Lib.hid hM3
            clear hN3 hM3 hkp hgrow3 hown3 hat3
            go_wp2_with fail
            have ek : keptL who (ps ++ [x]) = keptL who ps ++ [x] := by rw [HKA.out, cutB_eq, hA, hB]; rfl
            exact ⟨⟨k + 1, v2, by omega, by go_num, by rw [HNx.out, ek, List.length_append, List.length_append, HY.out]; simp only [List.length_singleton]; congr 2; omega, by rw [HNx.out, List.length_append]; exact HN3.out, by rw [HNx.out, ek]; exact HM3.out⟩, by simp [intOf]; omega⟩
    · obtain rfl : k = n := by omega
      have etk : xs.take k = xs := List.take_of_length_le (by omega)
      rw [etk] at hR hM ⊢
      have hfl : (xs.filter (okPk 15)).length ≤ k := Nat.le_trans (List.length_filter_le _ _) (by omega)
      generalize xs.filter (okPk 15) = ps at *
      have hyl : (keptL who ps).length ≤ ps.length := List.length_filter_le _ _
      have HC := Lib.hid (cut_any gN _ _ v ps who _ hR.net (by omega))
      obtain ⟨ys, hys⟩ : ∃ ys, ys = keptL who ps := ⟨_, rfl⟩
      rw [← hys] at hM hyl HC ⊢
      obtain ⟨A2, c2', rfl⟩ := hM.slice
      have hsub : ((ps.length - ys.length : Nat) : Int) = (ps.length : Int) - (ys.length : Int) := by omega
      rw [hsub]
      have HR := Lib.hid hR
      have HM := Lib.hid hM
      clear hR hM etk hsub hys
      go_wp2_with fail
      refine HC.out.mono ?_
      rintro e w2 ⟨v2, rfl, hN2, hk2, hv2⟩
      have HR2 := Lib.hid (HR.out.step hN2 hk2 (Or.inl hv2))
      have HM2 := Lib.hid (HM.out.step hk2 (Or.inl hv2))
      clear hN2 hk2 hv2
      go_wp2_with fail
      refine (len_is gN _ _ v2 _ _ HR2.out.net).mono ?_
      rintro e w3 ⟨rfl, rfl⟩
      go_wp2_with fail
      go_loopw [10] (fun i wr => ∃ (j : Nat) (v : Value), j ≤ ys.length ∧ i = .int .i64 j ∧ Net w.heap.size w wr gN 15 ps.length v (ys.drop j) ∧ Mine w.heap.size wr gN v (.slice A2 ys.length c2') ys) (fun i _ => ys.length - (intOf i).toNat)
      case atStart => exact ⟨0, v2, by omega, rfl, HR2.out, HM2.out⟩
      case round =>
        obtain ⟨j, v, hj, rfl, hR, hM⟩ := hrel
        rcases Nat.lt_or_ge j ys.length with hjl | hjg
        · have h0 : 0 < (ys.drop j).length := by rw [List.length_drop]; omega
          have hT := take_ok gN _ _ v (ys.drop j) 0 _ hR.net h0 (by rw [List.length_drop]; omega)
          have e0 : (ys.drop j)[0] = ys[j] := by simp
          have e1 : (ys.drop j).eraseIdx 0 = ys.drop (j + 1) := by rw [List.eraseIdx_zero, List.tail_drop]
          rw [e0, e1] at hT
          obtain ⟨y, hy⟩ : ∃ y, ys[j] = y := ⟨_, rfl⟩
          rw [hy] at hT
          have HY := Lib.hid hy
          have HT := Lib.hid hT
          have HR := Lib.hid hR
          have HM := Lib.hid hM
          have hne : ∀ w, (binOp .neq 30 (.agg #[.int .i64 y.f, .int .i64 y.t, .string (bs y.d)]) (.agg #[.int .i64 y.f, .int .i64 y.t, .string (bs y.d)])).run Try.prog w = .ok (.bool false) w := fun w => by simp [go_sem]
          clear hR hM hT h0 e0 e1 hy
          go_wp2_with fail
          refine HT.out.mono ?_
          rintro e w2 ⟨v2, rfl, hN2, hk2, hv2⟩
          have hR2 := HR.out.step hN2 hk2 (Or.inl hv2)
          have hM2 := HM.out.step hk2 (Or.inl hv2)
          have hb3 : Below w2.heap.size w2 (w2.alloc (.cells #[.int .i64 y.f, .int .i64 y.t, .string (bs y.d)] 30)) := (Below.refl _ w2).alloc (Nat.le_refl _) _
          have HR3 := Lib.hid (hR2.stay hb3)
          have hM3 : Mine w.heap.size (w2.alloc (.cells #[.int .i64 y.f, .int .i64 y.t, .string (bs y.d)] 30)) gN v2 (.slice A2 ys.length c2') ys := hM2.step (kp_below hb3) (Or.inl rfl)
          obtain ⟨a0, a1, a2⟩ := blk3 (Blk.new w2 30 #[.int .i64 y.f, .int .i64 y.t, .string (bs y.d)])
          have hat := Mine.at hM3 hjl
          rw [HY.out] at hat
          obtain ⟨g, cap, hge2, hgl, q0, q1, q2⟩ := hat
          cases hge2
          have HM3 := Lib.hid hM3
          clear hM3 hM2 hR2 hb3 hN2 hk2 hv2
          unfold pv
          go_wp2_with fail
          go_quiet (fail)
          have hbq : Below (w2.alloc (.cells #[.int .i64 y.f, .int .i64 y.t, .string (bs y.d)] 30)).heap.size (w2.alloc (.cells #[.int .i64 y.f, .int .i64 y.t, .string (bs y.d)] 30)) ((w2.alloc (.cells #[.int .i64 y.f, .int .i64 y.t, .string (bs y.d)] 30)).drewN nq) := ⟨rfl, rfl, rfl, Nat.le_refl _, fun _ _ => rfl⟩
          have HR4 := Lib.hid (HR3.out.stay hbq)
          have HM4 := Lib.hid (HM3.out.step (kp_below hbq) (Or.inl rfl))
          clear hbq
          go_wp2_with fail
          exact ⟨⟨j + 1, v2, by omega, by go_num, HR4.out, HM4.out⟩, by simp [intOf]; omega⟩
        · obtain rfl : j = ys.length := by omega
          have HR := Lib.hid hR
          clear hR hM
          go_wp2_with fail
          refine (awake_any _).mono ?_
          rintro e w3 ⟨rfl, hb3⟩
          have hb4 := (HR.out.stay hb3).below
          go_wp2_with fail
          go_ret
          exact ⟨rfl, hb4⟩
end Go.Proofs.Ytnefjmgpbbgifaa
