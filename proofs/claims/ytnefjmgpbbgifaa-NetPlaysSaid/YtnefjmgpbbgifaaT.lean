/- The law on plays: what each call answers. -/
import Derived.Test.YtnefjmgpbbgifaaS2
namespace Go.Proofs.Ytnefjmgpbbgifaa
open Go.RowKit
attribute [local go_sem] bs_size bs_getElem bs_list bs_append

theorem run_neq_pk (x : Pk) (w : World) : (binOp .neq 30 (.agg #[.int .i64 x.f, .int .i64 x.t, .string (bs x.d)]) (.agg #[.int .i64 x.f, .int .i64 x.t, .string (bs x.d)])).run Try.prog w = .ok (.bool false) w := by simp [go_sem]

set_option maxRecDepth 100000 in
set_option maxHeartbeats 3200000 in
theorem law_plays (d : Int) (A : Option Addr) (n c : Nat) (xs : List Ask) (w : World) (hx : Sl w 5 AskC A n c xs) :
    Calls Try.prog 5 #[.int .i64 d, .slice A n c] w fun e w' => e = .returned (.bool true) ∧ Below w.heap.size w w' := by
  have hn := hx.len
  have hmx := hx.max
  have hle := hx.le
  by_cases hdev : d < 1 ∨ 15 < d
  · go_enter Try.func5, Try.ntmps5
    go_wp2_with fail
    refine (new_bad d hdev _).mono ?_
    rintro e w1 ⟨rfl, rfl⟩
    go_wp2_with fail
    refine (rnew_bad d hdev _).mono ?_
    rintro e w1 ⟨rfl, rfl⟩
    go_wp2_with fail
    refine (awake_any _).mono ?_
    rintro e w9 ⟨rfl, hb9⟩
    go_wp2_with fail
    go_ret
    exact ⟨rfl, hb9⟩
  have HX := Lib.hid hx
  clear hx
  go_enter Try.func5, Try.ntmps5
  go_wp2_with fail
  refine (new_ok d (by omega) (by omega) _).mono ?_
  rintro e w1 ⟨gN, rfl, hN, hb1, hge1⟩
  have HN := Lib.hid hN
  have HB1 := Lib.hid hb1
  clear hN hb1
  go_wp2_with fail
  refine (rnew_ok d (by omega) (by omega) _).mono ?_
  rintro e w2 ⟨gR, rfl, hR, hb2, hge2⟩
  have hT : Two w.heap.size w w2 gN gR d 0 (.slice none 0 0) [] 0 (.slice none 0 0) [] :=
    ⟨HN.out.below hb2, hR, fun i hi hr => by
      have h1 := ns_lt HN.out hi
      rcases hr with rfl | hr
      · omega
      · simp [Value.ownBlock] at hr,
     HB1.out.trans (hb2.mono HB1.out.size), fun i hi => by
      rcases hi with (rfl | hi) | (rfl | hi)
      · exact hge1
      · simp [Value.ownBlock] at hi
      · exact Nat.le_trans HB1.out.size hge2
      · simp [Value.ownBlock] at hi, Nat.le_trans HB1.out.size hb2.size⟩
  have HT := Lib.hid hT
  clear hR hb2 hT HN hge1 hge2
  go_wp2_with fail
  go_loopw [9] (fun i wr => ∃ (q : Nat) (s : Int) (v u : Value) (ps : List Pk), q ≤ n ∧ q ≤ 200 ∧ i = .int .i64 q ∧ Two w.heap.size w wr gN gR d s v ps s u ps ∧ 0 ≤ s ∧ s ≤ q ∧ ps.length ≤ 500) (fun i _ => n - (intOf i).toNat)
  case atStart => exact ⟨0, 0, _, _, [], by omega, by omega, rfl, HT.out, by omega, by omega, by simp⟩
  case round =>
    obtain ⟨q, s, v, u, ps, hq, hq2, rfl, hT, hs0, hs1, hpl⟩ := hrel
    rcases Nat.lt_or_ge q n with hqn | hqn
    · rcases Nat.lt_or_ge q 200 with hq200 | hq200
      · obtain ⟨b, off, rfl, hbl, a0, a1, a2, a3, a4, hdl⟩ := Sl.ask_at HX.out (by omega : q < xs.length)
        have hbw := hT.below
        have a0 := cell_below hbw hbl a0
        have a1 := cell_below hbw hbl a1
        have a2 := cell_below hbw hbl a2
        have a3 := cell_below hbw hbl a3
        have a4 := cell_below hbw hbl a4
        generalize xs[q] = x at *
        obtain ⟨xa, p, xn⟩ := x
        simp only at a0 a1 a2 a3 a4 hdl
        have hB0 := Blk.new wr 42 #[.int .i64 xa, .int .i64 p.f, .int .i64 p.t, .string (bs p.d), .int .i64 xn]
        have hT1 := hT.stay ((Below.refl _ wr).alloc (Nat.le_refl _) (.cells #[.int .i64 xa, .int .i64 p.f, .int .i64 p.t, .string (bs p.d), .int .i64 xn] 42))
        have hnN : ¬ NS gN v wr.heap.size := fun h => by have := ns_lt hT.net h; omega
        have hnR : ¬ NS gR u wr.heap.size := fun h => by have := rs_lt hT.ref h; omega
        have hb2 := hT1.below
        obtain ⟨w3, hw3⟩ : ∃ w3, w3 = wr.alloc (.cells #[.int .i64 xa, .int .i64 p.f, .int .i64 p.t, .string (bs p.d), .int .i64 xn] 42) := ⟨_, rfl⟩
        rw [← hw3] at hB0 hT1 hb2
        obtain ⟨B3, hB3⟩ : ∃ B3, B3 = wr.heap.size := ⟨_, rfl⟩
        rw [← hB3] at hB0 hnN hnR
        have hqi : (q : Int) < (n : Int) := by omega
        have HW3 := Lib.hid hw3
        have HB3 := Lib.hid hB3
        by_cases hbig : p.d.length > 70000
        · have e1 : decide (((p.d.length : Nat) : Int) > 70000) = true := decide_eq_true (by omega)
          clear hw3 hB3 hT hT1 hB0 hbw
          go_wp2_with fail
          rw [← HW3.out]
          refine (awake_any _).mono ?_
          rintro e w9 ⟨rfl, hb9⟩
          have hb10 := hb2.trans (hb9.mono hb2.size)
          go_wp2_with fail
          go_ret
          exact ⟨rfl, hb10⟩
        have e1 : decide (((p.d.length : Nat) : Int) > 70000) = false := decide_eq_false (by omega)
        have f0 := hB0.cell 0
        have f1 := hB0.cell 1
        have f2 := hB0.cell 2
        have f3 := hB0.cell 3
        have f4 := hB0.cell 4
        simp only [List.getElem?_toArray, List.getElem?_cons_zero, List.getElem?_cons_succ] at f0 f1 f2 f3 f4
        have hk1 : ∀ w', Keeps (NS gN v) w3.drew w' → Blk w' B3 42 #[.int .i64 xa, .int .i64 p.f, .int .i64 p.t, .string (bs p.d), .int .i64 xn] := fun w' hk => Blk.kp hB0.drew hk hnN
        have hk2 : ∀ w' w'', Keeps (NS gN v) w3.drew w' → Keeps (NS gR u) w' w'' → Blk w'' B3 42 #[.int .i64 xa, .int .i64 p.f, .int .i64 p.t, .string (bs p.d), .int .i64 xn] := fun w' w'' hk hl => Blk.kp (hk1 w' hk) hl hnR
        have HKS := Lib.hid (show ∀ w', Keeps (NS gN v) w3 w' → Blk w' B3 42 #[.int .i64 xa, .int .i64 p.f, .int .i64 p.t, .string (bs p.d), .int .i64 xn] from fun w' hk => Blk.kp hB0 hk hnN)
        have HT1 := Lib.hid hT1
        have HT1d := Lib.hid (hT1.stay (Below.refl _ _).drew)
        have HK0 := Lib.hid hB0.drew
        have HK1 := Lib.hid hk1
        have HK2 := Lib.hid hk2
        clear hT hT1 hB0 hk1 hk2 hw3 hB3 hbw hnN hnR
        by_cases h0 : xa = 0
        · have e2 : (xa == 0) = true := by rw [h0]; rfl
          clear h0
          go_wp2_with fail
          rw [← HW3.out, ← HB3.out]
          go_region_held3 (fun w' => (w'.cell? ⟨B3, 1, none⟩ = some (.int .i64 p.f) ∧ w'.cell? ⟨B3, 2, none⟩ = some (.int .i64 p.t) ∧ w'.cell? ⟨B3, 3, none⟩ = some (.string (bs p.d)))) (first | exact ⟨f1, f2, f3⟩ | exact ⟨(HK1.out _ hk).cell 1, (HK1.out _ hk).cell 2, (HK1.out _ hk).cell 3⟩ | exact ⟨(HK2.out _ _ hk hk2).cell 1, (HK2.out _ _ hk hk2).cell 2, (HK2.out _ _ hk hk2).cell 3⟩)
            (first
              | (go_at_call 11; refine (send_any gN d s v ps p _ HT1d.out.net hs0 (by omega) (by omega) hdl).mono ?_; rintro e w' ⟨v', rfl, hn, hk, ha⟩)
              | (go_at_call 17; refine (rsend_any gR d s u ps p _ (HT1d.out.prog hn hk ha).ref hs0 (by omega) (by omega)).mono ?_; rintro e w4 ⟨u', rfl, hn2, hk2, ha2⟩))

          have hT3 := (HT1d.out.prog hn hk ha).docs hn2 hk2 ha2
          obtain ⟨A2, c2, rfl, _⟩ := hT3.ref.slice
          have hs2 := sendS_le d ps.length p s
          have hp2 := sendL_len d ps p hpl
          generalize sendL d ps p = ps1 at *
          generalize sendS d ps.length p s = s1 at *
          have g0 := hT3.ref.c0
          have g1 := hT3.ref.c1
          have hlen := fun m => len_is gN d _ _ _ (w4.drewN m) (hT3.net.below (below_drewN (Below.refl _ _) m))
          have hsent := fun m => sent_is gN d _ _ _ (w4.drewN m) (hT3.net.below (below_drewN (Below.refl _ _) m))
          have HL := Lib.hid hlen
          have HS := Lib.hid hsent
          have HT3 := Lib.hid hT3
          clear hT3 hlen hsent hn hk ha hn2 hk2 ha2
          go_wp2_with fail
          go_quiet (first | (go_at_call 12; refine Calls.quiet_of_same ((HL.out _).mono (fun _ _ h => ⟨h.1, h.2.symm⟩))) | (go_at_call 13; refine Calls.quiet_of_same ((HS.out _).mono (fun _ _ h => ⟨h.1, h.2.symm⟩))))
          have HT4 := Lib.hid (HT3.out.stay (below_drewN (Below.refl _ _) nq))
          go_wp2_with fail
          exact ⟨⟨q + 1, _, _, _, _, by omega, by omega, by go_num, HT4.out, by omega, by omega, hp2⟩, by simp [intOf]; omega⟩
        have e2 : (xa == 0) = false := beq_eq_false_iff_ne.2 h0
        clear h0
        by_cases h1 : xa = 1
        · have e3 : (xa == 1) = true := by rw [h1]; rfl
          clear h1
          have htk := take_any gN d s v ps xn w3 HT1.out.net (by omega)
          have htr := fun w hN => rtake_any gR d s u ps xn w hN (by omega)
          have hneq := fun w => run_neq_pk (takeP ps xn) w
          generalize takeP ps xn = y at *
          unfold pv at htk htr
          have HTR := Lib.hid htr
          have HTK := Lib.hid htk
          clear htk htr
          go_wp2_with fail
          rw [← HW3.out, ← HB3.out]
          refine HTK.out.mono ?_
          rintro e wa ⟨v', rfl, hn, hk, ha⟩
          have hT2 := HT1.out.prog hn hk ha
          have f4 := (HKS.out wa hk).cell 4
          simp only [List.getElem?_toArray, List.getElem?_cons_zero, List.getElem?_cons_succ] at f4
          have hrl := fun i hi => rs_lt hT2.ref (i := i) hi
          have f4 := cell?_alloc_old f4 (.cells #[.int .i64 y.f, .int .i64 y.t, .string (bs y.d)] 30)
          have hT3 := hT2.stay ((Below.refl _ wa).alloc (Nat.le_refl _) (.cells #[.int .i64 y.f, .int .i64 y.t, .string (bs y.d)] 30))
          have hBy := Blk.new wa 30 #[.int .i64 y.f, .int .i64 y.t, .string (bs y.d)]
          have hnR : ¬ NS gR u wa.heap.size := fun h => by have := hrl _ h; omega
          obtain ⟨wb, hwb⟩ : ∃ wb, wb = wa.alloc (.cells #[.int .i64 y.f, .int .i64 y.t, .string (bs y.d)] 30) := ⟨_, rfl⟩
          rw [← hwb] at hT3 hBy
          have HWB := Lib.hid hwb
          have HT3 := Lib.hid hT3
          have HBy := Lib.hid hBy
          clear hwb hT3 hBy hT2 hn hk ha hrl f0 f1 f2 f3
          obtain ⟨By, hBY⟩ : ∃ By, By = wa.heap.size := ⟨_, rfl⟩
          rw [← hBY] at HBy hnR
          have HBY := Lib.hid hBY
          clear hBY
          go_wp2_with fail
          rw [← HWB.out, ← HBY.out]
          refine (HTR.out _ HT3.out.ref).mono ?_
          rintro e wc ⟨u', rfl, hn2, hk2, ha2⟩
          have hT4 := HT3.out.docs hn2 hk2 ha2
          have hBc : Blk wc By 30 #[.int .i64 y.f, .int .i64 y.t, .string (bs y.d)] := Blk.kp HBy.out hk2 hnR
          have hBd := hBc.alloc (.cells #[.int .i64 y.f, .int .i64 y.t, .string (bs y.d)] 30)
          obtain ⟨q0, q1, q2⟩ := blk3 hBd
          have hT5 := hT4.stay ((Below.refl _ wc).alloc (Nat.le_refl _) (.cells #[.int .i64 y.f, .int .i64 y.t, .string (bs y.d)] 30))
          obtain ⟨w4, hw4⟩ : ∃ w4, w4 = wc.alloc (.cells #[.int .i64 y.f, .int .i64 y.t, .string (bs y.d)] 30) := ⟨_, rfl⟩
          rw [← hw4] at hT5
          have HW4 := Lib.hid hw4
          obtain ⟨A2, c2, rfl, _⟩ := hT5.ref.slice
          have hp2 := takeL_len ps xn hpl
          have hs2 := hs0
          generalize takeL ps xn = ps1 at *
          have g0 := hT5.ref.c0
          have g1 := hT5.ref.c1
          have hlen := fun m => len_is gN d _ _ _ (w4.drewN m) (hT5.net.below (below_drewN (Below.refl _ _) m))
          have hsent := fun m => sent_is gN d _ _ _ (w4.drewN m) (hT5.net.below (below_drewN (Below.refl _ _) m))
          have HL := Lib.hid hlen
          have HS := Lib.hid hsent
          have HT5 := Lib.hid hT5
          clear hT4 hT5 hBc hBd hn2 hk2 ha2 f4 hlen hsent hw4
          go_wp2_with fail
          rw [← HW4.out]
          go_quiet (first | (go_at_call 12; refine Calls.quiet_of_same ((HL.out _).mono (fun _ _ h => ⟨h.1, h.2.symm⟩))) | (go_at_call 13; refine Calls.quiet_of_same ((HS.out _).mono (fun _ _ h => ⟨h.1, h.2.symm⟩))))
          have HT6 := Lib.hid (HT5.out.stay (below_drewN (Below.refl _ _) nq))
          go_wp2_with fail
          exact ⟨⟨q + 1, _, _, _, _, by omega, by omega, by go_num, HT6.out, by omega, by omega, hp2⟩, by simp [intOf]; omega⟩
        have e3 : (xa == 1) = false := beq_eq_false_iff_ne.2 h1
        clear h1
        by_cases h2 : xa = 2
        · have e4 : (xa == 2) = true := by rw [h2]; rfl
          clear h2
          go_wp2_with fail
          rw [← HW3.out, ← HB3.out]
          go_region_held3 (fun w' => w'.cell? ⟨B3, 4, none⟩ = some (.int .i64 xn)) (first | exact f4 | exact (HK1.out _ hk).cell 4 | exact (HK2.out _ _ hk hk2).cell 4)
            (first
              | (go_at_call 15; refine (twice_any gN d s v ps xn _ HT1d.out.net (by omega)).mono ?_; rintro e w' ⟨v', rfl, hn, hk, ha⟩)
              | (go_at_call 19; refine (rtwice_any gR d s u ps xn _ (HT1d.out.prog hn hk ha).ref).mono ?_; rintro e w4 ⟨u', rfl, hn2, hk2, ha2⟩))

          have hT3 := (HT1d.out.prog hn hk ha).docs hn2 hk2 ha2
          obtain ⟨A2, c2, rfl, _⟩ := hT3.ref.slice
          have hs2 := hs0
          have hp2 := twiceL_len ps xn hpl
          generalize twiceL ps xn = ps1 at *
          have g0 := hT3.ref.c0
          have g1 := hT3.ref.c1
          have hlen := fun m => len_is gN d _ _ _ (w4.drewN m) (hT3.net.below (below_drewN (Below.refl _ _) m))
          have hsent := fun m => sent_is gN d _ _ _ (w4.drewN m) (hT3.net.below (below_drewN (Below.refl _ _) m))
          have HL := Lib.hid hlen
          have HS := Lib.hid hsent
          have HT3 := Lib.hid hT3
          clear hT3 hlen hsent hn hk ha hn2 hk2 ha2
          go_wp2_with fail
          go_quiet (first | (go_at_call 12; refine Calls.quiet_of_same ((HL.out _).mono (fun _ _ h => ⟨h.1, h.2.symm⟩))) | (go_at_call 13; refine Calls.quiet_of_same ((HS.out _).mono (fun _ _ h => ⟨h.1, h.2.symm⟩))))
          have HT4 := Lib.hid (HT3.out.stay (below_drewN (Below.refl _ _) nq))
          go_wp2_with fail
          exact ⟨⟨q + 1, _, _, _, _, by omega, by omega, by go_num, HT4.out, by omega, by omega, hp2⟩, by simp [intOf]; omega⟩
        · have e4 : (xa == 2) = false := beq_eq_false_iff_ne.2 h2
          clear h2
          go_wp2_with fail
          rw [← HW3.out, ← HB3.out]
          go_region_held3 (fun w' => w'.cell? ⟨B3, 4, none⟩ = some (.int .i64 xn)) (first | exact f4 | exact (HK1.out _ hk).cell 4 | exact (HK2.out _ _ hk hk2).cell 4)
            (first
              | (go_at_call 20; refine (cut_any gN d s v ps xn _ HT1d.out.net (by omega)).mono ?_; rintro e w' ⟨v', rfl, hn, hk, ha⟩)
              | (go_at_call 21; refine (rcut_any gR d s u ps xn _ (HT1d.out.prog hn hk (At.of (.inl ha))).ref (by omega)).mono ?_; rintro e w4 ⟨u', rfl, hn2, hk2, ha2⟩))

          have hT3 := (HT1d.out.prog hn hk (At.of (.inl ha))).docs hn2 hk2 ha2
          obtain ⟨A2, c2, rfl, _⟩ := hT3.ref.slice
          have hs2 := hs0
          have hp2 : (keptL xn ps).length ≤ 500 := Nat.le_trans (List.length_filter_le _ _) hpl
          generalize keptL xn ps = ps1 at *
          have g0 := hT3.ref.c0
          have g1 := hT3.ref.c1
          have hlen := fun m => len_is gN d _ _ _ (w4.drewN m) (hT3.net.below (below_drewN (Below.refl _ _) m))
          have hsent := fun m => sent_is gN d _ _ _ (w4.drewN m) (hT3.net.below (below_drewN (Below.refl _ _) m))
          have HL := Lib.hid hlen
          have HS := Lib.hid hsent
          have HT3 := Lib.hid hT3
          clear hT3 hlen hsent hn hk ha hn2 hk2 ha2
          go_wp2_with fail
          go_quiet (first | (go_at_call 12; refine Calls.quiet_of_same ((HL.out _).mono (fun _ _ h => ⟨h.1, h.2.symm⟩))) | (go_at_call 13; refine Calls.quiet_of_same ((HS.out _).mono (fun _ _ h => ⟨h.1, h.2.symm⟩))))
          have HT4 := Lib.hid (HT3.out.stay (below_drewN (Below.refl _ _) nq))
          go_wp2_with fail
          exact ⟨⟨q + 1, _, _, _, _, by omega, by omega, by go_num, HT4.out, by omega, by omega, hp2⟩, by simp [intOf]; omega⟩
      · have hq3 : ¬ (q : Int) < 200 := by omega
        have hbw := hT.below
        go_wp2_with fail
        refine (awake_any _).mono ?_
        rintro e w9 ⟨rfl, hb9⟩
        have hb10 := hbw.trans (hb9.mono hbw.size)
        go_wp2_with fail
        go_ret
        exact ⟨rfl, hb10⟩
    · have hq3 : ¬ (q : Int) < (n : Int) := by omega
      have hbw := hT.below
      go_wp2_with fail
      refine (awake_any _).mono ?_
      rintro e w9 ⟨rfl, hb9⟩
      have hb10 := hbw.trans (hb9.mono hbw.size)
      go_wp2_with fail
      go_ret
      exact ⟨rfl, hb10⟩
end Go.Proofs.Ytnefjmgpbbgifaa
