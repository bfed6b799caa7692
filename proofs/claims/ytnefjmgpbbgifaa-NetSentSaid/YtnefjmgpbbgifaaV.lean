/- The law that what is taken was sent. -/
import Derived.Test.YtnefjmgpbbgifaaU
namespace Go.Proofs.Ytnefjmgpbbgifaa
open Go.RowKit
attribute [local go_sem] bs_size bs_getElem bs_list bs_append

theorem run_make (w : World) : (Instr.makeMap 47 none).run Try.prog w = .ok (.map (some w.heap.size)) (w.alloc (.map #[] 0)) := by simp [Instr.makeMap, go_sem]
attribute [local go_sem] run_make
theorem sendIs_ok {d : Int} {n : Nat} {x : Pk} (h : sendIs d n x = 0) : 0 ≤ x.f ∧ x.f < d ∧ 0 ≤ x.t ∧ x.t < d ∧ x.f ≠ x.t := by
  unfold sendIs at h
  by_cases c : ¬ (0 ≤ x.f ∧ x.f < d) ∨ ¬ (0 ≤ x.t ∧ x.t < d) ∨ x.f = x.t
  · rw [if_pos c] at h; cases h
  · have h1 := fun h => c (.inl h)
    have h2 := fun h => c (.inr (.inl h))
    have h3 := fun h => c (.inr (.inr h))
    refine ⟨?_, ?_, ?_, ?_, h3⟩ <;> omega
theorem take_in {ps : List Pk} {k : Int} (h : takeC ps k = 0) : ∃ (m : Nat) (hm : m < ps.length), takeP ps k = ps[m] ∧ takeL ps k = ps.eraseIdx m := by
  unfold takeC takeP takeL at *
  by_cases c : 0 ≤ k ∧ k < ps.length
  · rw [if_pos c, if_pos c]
    have hm : k.toNat < ps.length := by omega
    exact ⟨k.toNat, hm, by simp [List.getD_eq_getElem?_getD, hm], rfl⟩
  · rw [if_neg c] at h; cases h
theorem take_out {ps : List Pk} {k : Int} (h : ¬ takeC ps k = 0) : takeL ps k = ps := by
  unfold takeC takeL at *
  by_cases c : 0 ≤ k ∧ k < ps.length
  · exact (h (if_pos c)).elim
  · rw [if_neg c]
theorem twice_in {ps : List Pk} {k : Int} (h : twiceC ps k = 0) : ∃ (m : Nat), m < ps.length ∧ twiceL ps k = ps ++ [ps.getD m pk0] := by
  unfold twiceC twiceL at *
  by_cases c : 0 ≤ k ∧ k < ps.length
  · rw [if_pos c] at h ⊢
    by_cases c2 : 500 ≤ ps.length
    · rw [if_pos c2] at h; cases h
    · rw [if_neg c2]; exact ⟨k.toNat, by omega, rfl⟩
  · rw [if_neg c] at h; cases h
theorem twice_out {ps : List Pk} {k : Int} (h : ¬ twiceC ps k = 0) : twiceL ps k = ps := by
  unfold twiceC twiceL at *
  by_cases c : 0 ≤ k ∧ k < ps.length
  · rw [if_pos c] at h ⊢
    by_cases c2 : 500 ≤ ps.length
    · rw [if_pos c2]
    · rw [if_neg c2] at h; exact (h rfl).elim
  · rw [if_neg c]
def lenAt (w : World) (g : Nat) : Nat := match w.cell? ⟨g, 1, none⟩ with
  | some (.slice _ n _) => n
  | _ => 0
theorem len_at {w : World} {gN : Nat} {d s : Int} {v : Value} {ps : List Pk} (h : NetI w gN d s v ps) : lenAt w gN = ps.length := by
  obtain ⟨A, c, rfl⟩ := h.slice
  unfold lenAt
  rw [h.c1]

set_option maxRecDepth 100000 in
set_option maxHeartbeats 6400000 in
theorem law_sent (d : Int) (A : Option Addr) (n c : Nat) (xs : List Ask) (w : World) (hx : Sl w 5 AskC A n c xs) :
    Calls Try.prog 6 #[.int .i64 d, .slice A n c] w fun e w' => e = .returned (.bool true) ∧ Below w.heap.size w w' := by
  have hn := hx.len
  have hmx := hx.max
  have hle := hx.le
  by_cases hdev : d < 1 ∨ 15 < d
  · go_enter Try.func6, Try.ntmps6
    go_wp2_with fail
    refine (new_bad d hdev _).mono ?_
    rintro e w1 ⟨rfl, rfl⟩
    go_wp2_with fail
    refine (awake_any _).mono ?_
    rintro e w9 ⟨rfl, hb9⟩
    go_wp2_with fail
    go_ret
    exact ⟨rfl, hb9⟩
  have HX := Lib.hid hx
  clear hx
  go_enter Try.func6, Try.ntmps6
  go_wp2_with fail
  refine (new_ok d (by omega) (by omega) _).mono ?_
  rintro e w1 ⟨gN, rfl, hN, hb1, hge1⟩
  have HN := Lib.hid hN
  have HB1 := Lib.hid hb1
  clear hN hb1
  go_wp2_with fail
  have hT : Sent w.heap.size w (w1.alloc (.map #[] 0)) gN w1.heap.size d 0 (.slice none 0 0) [] (fun _ => 0) :=
    ⟨HN.out.below ((Below.refl _ w1).alloc (Nat.le_refl _) _), Sm.new w1, fun h => by have := ns_lt HN.out h; omega,
     HB1.out.alloc HB1.out.size _, fun i hi => by
      rcases hi with (rfl | hi) | rfl
      · exact hge1
      · simp [Value.ownBlock] at hi
      · exact HB1.out.size, by have := HB1.out.size; simp; omega⟩
  have HT := Lib.hid hT
  obtain ⟨M, hM⟩ : ∃ M, M = w1.heap.size := ⟨_, rfl⟩
  rw [← hM] at HT
  rw [← hM]
  clear HN hge1 hT HB1
  generalize w1.alloc (.map #[] 0) = w2 at *
  clear hM
  go_loopw [8, 9] (fun i b wr => ∃ (q : Nat) (s : Int) (tw : Bool) (v : Value) (ps : List Pk) (g : Pk → Int), q ≤ n ∧ q ≤ 200 ∧ i = .bool tw ∧ b = .int .i64 q ∧ Sent w.heap.size w wr gN M d s v ps g ∧ 0 ≤ s ∧ s ≤ q ∧ ps.length ≤ 500 ∧ Was tw ps g q) (fun _ b _ => n - (intOf b).toNat)
  case atStart => exact ⟨0, 0, false, _, [], _, by omega, by omega, rfl, rfl, HT.out, by omega, by omega, by simp, was_new⟩
  case round =>
    obtain ⟨q, s, tw, v, ps, g, hq, hq2, rfl, rfl, hT, hs0, hs1, hpl, hW⟩ := hrel
    clear HT
    rcases Nat.lt_or_ge q n with hqn | hqn
    · rcases Nat.lt_or_ge q 200 with hq200 | hq200
      · obtain ⟨b, off, rfl, hbl, a0, a1, a2, a3, a4, hdl⟩ := Sl.ask_at HX.out (by omega : q < xs.length)
        have hbw := hT.below
        have a0 := cell_below hbw hbl a0
        have a1 := cell_below hbw hbl a1
        have a2 := cell_below hbw hbl a2
        have a3 := cell_below hbw hbl a3
        have a4 := cell_below hbw hbl a4
        generalize xs[q] = x at *
        obtain ⟨xa, p, xn⟩ := x
        simp only at a0 a1 a2 a3 a4 hdl
        have hB0 := Blk.new wr 42 #[.int .i64 xa, .int .i64 p.f, .int .i64 p.t, .string (bs p.d), .int .i64 xn]
        have hT1 := hT.stay ((Below.refl _ wr).alloc (Nat.le_refl _) (.cells #[.int .i64 xa, .int .i64 p.f, .int .i64 p.t, .string (bs p.d), .int .i64 xn] 42))
        have hnN : ¬ NS gN v wr.heap.size := fun h => by have := ns_lt hT.net h; omega
        have hnM : M ≠ wr.heap.size := fun h => by have := hT.map.lt; omega
        obtain ⟨w3, hw3⟩ : ∃ w3, w3 = wr.alloc (.cells #[.int .i64 xa, .int .i64 p.f, .int .i64 p.t, .string (bs p.d), .int .i64 xn] 42) := ⟨_, rfl⟩
        rw [← hw3] at hB0 hT1
        obtain ⟨B3, hB3⟩ : ∃ B3, B3 = wr.heap.size := ⟨_, rfl⟩
        rw [← hB3] at hB0 hnN hnM
        have hqi : (q : Int) < (n : Int) := by omega
        have HW3 := Lib.hid hw3
        have HB3 := Lib.hid hB3
        have f0 := hB0.cell 0
        have f1 := hB0.cell 1
        have f2 := hB0.cell 2
        have f3 := hB0.cell 3
        have f4 := hB0.cell 4
        simp only [List.getElem?_toArray, List.getElem?_cons_zero, List.getElem?_cons_succ] at f0 f1 f2 f3 f4
        have HKS := Lib.hid (show ∀ w', Keeps (NS gN v) w3 w' → Blk w' B3 42 #[.int .i64 xa, .int .i64 p.f, .int .i64 p.t, .string (bs p.d), .int .i64 xn] from fun w' hk => Blk.kp hB0 hk hnN)
        have HT1 := Lib.hid hT1
        have HWay := Lib.hid hW
        clear hT hT1 hB0 hw3 hB3 hbw hnN hW
        by_cases h0 : xa = 0
        · have e2 : (xa == 0) = true := by rw [h0]; rfl
          clear h0
          go_wp2_with fail
          rw [← HW3.out, ← HB3.out]
          go_wp2_with fail
          refine (send_any gN d s v ps p _ HT1.out.net hs0 (by omega) (by omega) hdl).mono ?_
          rintro e w4 ⟨v', rfl, hn, hk, ha⟩
          have hT2 := HT1.out.prog hn hk ha
          have hBx := HKS.out w4 hk
          have f1 := hBx.cell 1
          have f2 := hBx.cell 2
          have f3 := hBx.cell 3
          simp only [List.getElem?_toArray, List.getElem?_cons_zero, List.getElem?_cons_succ] at f1 f2 f3
          have hp2 := sendL_len d ps p hpl
          have hs2 := sendS_le d ps.length p s
          have HT2 := Lib.hid hT2
          clear hT2 hn hk ha hBx
          by_cases hc : sendIs d ps.length p = 0
          · have hok := sendIs_ok hc
            have e3 : (p.f == p.t) = false := beq_eq_false_iff_ne.2 hok.2.2.2.2
            have e4 : decide (p.f < 0) = false := decide_eq_false (by omega)
            have e5 : decide (p.f ≥ d) = false := decide_eq_false (by omega)
            have e6 : decide (p.t < 0) = false := decide_eq_false (by omega)
            have e7 : decide (p.t ≥ d) = false := decide_eq_false (by omega)
            have hg := HWay.out.le p
            have hg0 := HWay.out.ge p
            have hl := HT2.out.map.look p
            have eL : sendL d ps p = ps ++ [p] := by unfold sendL; rw [if_pos hc]
            rw [hc]
            obtain ⟨w5, st, w6, m1, m2, m3, m4, m5, m6, m7, m8⟩ := (HT2.out.stay (Below.refl _ w4).drew).map.entry p (g p + 1)
            have hld := (HT2.out.stay (Below.refl _ w4).drew).map.look p
            have hl5 := m2.look p
            have HT3 := Lib.hid ((HT2.out.stay (Below.refl _ w4).drew).put m6 m7)
            have ew : wrap64 (g p + 1) = g p + 1 := by unfold wrap64; omega
            unfold pv at hl hld hl5 m1
            go_wp2_with fail
            go_region
            go_wp2_with fail
            exact ⟨⟨q + 1, _, tw, _, _, _, by omega, by omega, rfl, by go_num, HT3.out, by omega, by omega, hp2, eL ▸ was_send HWay.out p⟩, by simp [intOf]; omega⟩
          · have hc' : (sendIs d ps.length p == 0) = false := beq_eq_false_iff_ne.2 hc
            have eL : sendL d ps p = ps := by unfold sendL; rw [if_neg hc]
            go_wp2_with fail
            exact ⟨⟨q + 1, _, tw, _, _, _, by omega, by omega, rfl, by go_num, HT2.out, by omega, by omega, hp2, eL.symm ▸ was_next HWay.out⟩, by simp [intOf]; omega⟩
        have e2 : (xa == 0) = false := beq_eq_false_iff_ne.2 h0
        clear h0
        by_cases h1 : xa = 1
        · have e3 : (xa == 1) = true := by rw [h1]; rfl
          clear h1
          have htk := take_any gN d s v ps xn w3 HT1.out.net (by omega)
          obtain ⟨y, hy⟩ : ∃ y, y = takeP ps xn := ⟨_, rfl⟩
          rw [← hy] at htk
          have HY := Lib.hid hy
          unfold pv at htk
          have HTK := Lib.hid htk
          clear htk hy
          go_wp2_with fail
          rw [← HW3.out, ← HB3.out]
          go_wp2_with fail
          refine HTK.out.mono ?_
          rintro e wa ⟨v', rfl, hn, hk, ha⟩
          have hT2 := HT1.out.prog hn hk ha
          have hT3 := hT2.stay ((Below.refl _ wa).alloc (Nat.le_refl _) (.cells #[.int .i64 y.f, .int .i64 y.t, .string (bs y.d)] 30))
          have hBy := Blk.new wa 30 #[.int .i64 y.f, .int .i64 y.t, .string (bs y.d)]
          obtain ⟨wb, hwb⟩ : ∃ wb, wb = wa.alloc (.cells #[.int .i64 y.f, .int .i64 y.t, .string (bs y.d)] 30) := ⟨_, rfl⟩
          rw [← hwb] at hT3 hBy
          obtain ⟨By, hBY⟩ : ∃ By, By = wa.heap.size := ⟨_, rfl⟩
          rw [← hBY] at hBy
          obtain ⟨y0, y1, y2⟩ := blk3 hBy
          have hp2 := takeL_len ps xn hpl
          have HWB := Lib.hid hwb
          have HBY := Lib.hid hBY
          have HT3 := Lib.hid hT3
          clear hwb hBY hT3 hT2 hn hk ha hBy f0 f1 f2 f3 f4
          by_cases hc : takeC ps xn = 0
          · obtain ⟨m, hm, eP, eL⟩ := take_in hc
            have hy : y ∈ ps := by rw [HY.out, eP]; exact List.getElem_mem hm
            have hy0 := HWay.out.on y hy
            have hyg : (g y == 0) = false := beq_eq_false_iff_ne.2 (by omega)
            have hyl := HWay.out.le y
            have hyd : ¬ g y = 0 := by omega
            rw [hc]
            have hl := HT3.out.map.look y
            unfold pv at hl
            go_wp2_with fail
            rw [← HWB.out, ← HBY.out]
            cases tw with
            | true =>
              go_wp2_with fail
              rw [hl]
              go_wp2_with fail
              exact ⟨⟨q + 1, _, true, _, _, _, by omega, by omega, rfl, by go_num, HT3.out, by omega, by omega, hp2, eL.symm ▸ was_gone HWay.out m⟩, by simp [intOf]; omega⟩
            | false =>
              obtain ⟨w5, st, w6, m1, m2, m3, m4, m5, m6, m7, m8⟩ := (HT3.out.stay (Below.refl _ wb).drew).map.entry y (g y - 1)
              have hld := (HT3.out.stay (Below.refl _ wb).drew).map.look y
              have hl5 := m2.look y
              have HT4 := Lib.hid ((HT3.out.stay (Below.refl _ wb).drew).put m6 m7)
              have ew : wrap64 (g y - 1) = g y - 1 := by unfold wrap64; omega
              unfold pv at hld hl5 m1
              go_wp2_with fail
              rw [hl]
              go_wp2_with fail
              go_region
              go_wp2_with fail
              have hfin : Was false (takeL ps xn) (upd g y (g y - 1)) (q + 1) := by rw [eL, HY.out, eP]; exact was_take HWay.out hm
              exact ⟨⟨q + 1, _, false, _, _, _, by omega, by omega, rfl, by go_num, HT4.out, by omega, by omega, hp2, hfin⟩, by simp [intOf]; omega⟩
          · have hc' : (takeC ps xn == 0) = false := beq_eq_false_iff_ne.2 hc
            have eL := take_out hc
            go_wp2_with fail
            rw [← HWB.out]
            exact ⟨⟨q + 1, _, tw, _, _, _, by omega, by omega, rfl, by go_num, HT3.out, by omega, by omega, hp2, eL.symm ▸ was_next HWay.out⟩, by simp [intOf]; omega⟩
        have e3 : (xa == 1) = false := beq_eq_false_iff_ne.2 h1
        clear h1
        by_cases h2 : xa = 2
        · have e4 : (xa == 2) = true := by rw [h2]; rfl
          clear h2
          cases tw with
          | true =>
            go_wp2_with fail
            rw [← HW3.out]
            exact ⟨⟨q + 1, _, true, _, _, _, by omega, by omega, rfl, by go_num, HT1.out, by omega, by omega, hpl, was_next HWay.out⟩, by simp [intOf]; omega⟩
          | false =>
            go_wp2_with fail
            rw [← HW3.out, ← HB3.out]
            go_wp2_with fail
            refine (twice_any gN d s v ps xn _ HT1.out.net (by omega)).mono ?_
            rintro e w4 ⟨v', rfl, hn, hk, ha⟩
            have HT2 := Lib.hid (HT1.out.prog hn hk ha)
            have hp2 := twiceL_len ps xn hpl
            clear hn hk ha f0 f1 f2 f3 f4
            by_cases hc : twiceC ps xn = 0
            · obtain ⟨m, hm, eL⟩ := twice_in hc
              rw [hc]
              go_wp2_with fail
              exact ⟨⟨q + 1, _, true, _, _, _, by omega, by omega, rfl, by go_num, HT2.out, by omega, by omega, hp2, eL.symm ▸ was_twice HWay.out hm⟩, by simp [intOf]; omega⟩
            · have hc' : (twiceC ps xn == 0) = false := beq_eq_false_iff_ne.2 hc
              have eL := twice_out hc
              go_wp2_with fail
              exact ⟨⟨q + 1, _, false, _, _, _, by omega, by omega, rfl, by go_num, HT2.out, by omega, by omega, hp2, eL.symm ▸ was_next HWay.out⟩, by simp [intOf]; omega⟩
        have e4 : (xa == 2) = false := beq_eq_false_iff_ne.2 h2
        clear h2
        have hkl : (keptL xn ps).length ≤ ps.length := List.length_filter_le _ _
        have k1 : decide (((ps.length : Int) - ((keptL xn ps).length : Nat)) < 0) = false := decide_eq_false (by omega)
        have k2 : decide (((ps.length : Int) - ((keptL xn ps).length : Nat)) > (ps.length : Nat)) = false := decide_eq_false (by omega)
        have k3 : wrap64 ((ps.length : Int) - ((ps.length : Int) - ((keptL xn ps).length : Nat))) = ((keptL xn ps).length : Nat) := by unfold wrap64; omega
        go_wp2_with fail
        rw [← HW3.out, ← HB3.out]
        go_wp2_with fail
        refine (len_is gN d _ _ _ _ HT1.out.net).mono ?_
        rintro e w4 ⟨rfl, rfl⟩
        go_wp2_with fail
        refine (cut_any gN d s v ps xn _ HT1.out.net (by omega)).mono ?_
        rintro e w4 ⟨v', rfl, hn, hk, ha⟩
        have HT2 := Lib.hid (HT1.out.prog hn hk (At.of (.inl ha)))
        clear hn hk ha f0 f1 f2 f3 f4
        go_wp2_with fail
        refine (len_is gN d _ _ _ _ HT2.out.net).mono ?_
        rintro e w5 ⟨rfl, rfl⟩
        go_wp2_with fail
        exact ⟨⟨q + 1, _, tw, _, _, _, by omega, by omega, rfl, by go_num, HT2.out, by omega, by omega, by omega, was_cut HWay.out xn⟩, by simp [intOf]; omega⟩
      · have hq3 : ¬ (q : Int) < 200 := by omega
        have HTs := Lib.hid hT
        have hon := hW.on
        clear hT hW
        go_wp2_with fail
        go_loopw [] (fun wr => ∃ (v : Value) (ps : List Pk), Sent w.heap.size w wr gN M d s v ps g ∧ ps.length ≤ 500 ∧ ∀ p ∈ ps, 0 < g p) (fun wr => lenAt wr gN)
        case atStart => exact ⟨_, _, HTs.out, hpl, hon⟩
        case round =>
          clear HTs hon hpl
          obtain ⟨v, ps, hT, hpl, hon⟩ := hrel
          have HT5 := Lib.hid hT
          clear hT
          go_wp2_with fail
          refine (len_is gN d _ _ _ _ HT5.out.net).mono ?_
          rintro e w5 ⟨rfl, rfl⟩
          rcases Nat.eq_zero_or_pos ps.length with hz | hz
          · have hz0 : decide (((ps.length : Nat) : Int) > 0) = false := decide_eq_false (by omega)
            go_wp2_with fail
            refine (awake_any _).mono ?_
            rintro e w9 ⟨rfl, hb9⟩
            have hb10 := HT5.out.below.trans (hb9.mono HT5.out.sz)
            go_wp2_with fail
            go_ret
            exact ⟨rfl, hb10⟩
          · have hz0 : decide (((ps.length : Nat) : Int) > 0) = true := decide_eq_true (by omega)
            have htk := take_any gN d s v ps 0 wr HT5.out.net (by omega)
            obtain ⟨y, hy⟩ : ∃ y, y = takeP ps 0 := ⟨_, rfl⟩
            have hc : takeC ps 0 = 0 := if_pos (by omega)
            rw [← hy, hc] at htk
            obtain ⟨m, hm, eP, eL⟩ := take_in hc
            have hmem : y ∈ ps := by rw [hy, eP]; exact List.getElem_mem hm
            have hy0 := hon y hmem
            clear hy eP
            have hyg : (g y == 0) = false := beq_eq_false_iff_ne.2 (by omega)
            have hyd : ¬ g y = 0 := by omega
            unfold pv at htk
            have HTK := Lib.hid htk
            have hon2 : ∀ p ∈ takeL ps 0, 0 < g p := fun p hp => hon p (List.mem_of_mem_eraseIdx (eL ▸ hp))
            have hln : (takeL ps 0).length < ps.length := by rw [eL, List.length_eraseIdx]; split <;> omega
            have HON := Lib.hid hon2
            clear htk hon hon2
            go_wp2_with fail
            refine HTK.out.mono ?_
            rintro e wa ⟨v', rfl, hn, hk, ha⟩
            have hT2 := HT5.out.prog hn hk ha
            have hT3 := hT2.stay ((Below.refl _ wa).alloc (Nat.le_refl _) (.cells #[.int .i64 y.f, .int .i64 y.t, .string (bs y.d)] 30))
            have hBy := Blk.new wa 30 #[.int .i64 y.f, .int .i64 y.t, .string (bs y.d)]
            obtain ⟨wb, hwb⟩ : ∃ wb, wb = wa.alloc (.cells #[.int .i64 y.f, .int .i64 y.t, .string (bs y.d)] 30) := ⟨_, rfl⟩
            rw [← hwb] at hT3 hBy
            obtain ⟨By, hBY⟩ : ∃ By, By = wa.heap.size := ⟨_, rfl⟩
            rw [← hBY] at hBy
            obtain ⟨y0, y1, y2⟩ := blk3 hBy
            have HWB := Lib.hid hwb
            have HBY := Lib.hid hBY
            have hl := hT3.map.look y
            unfold pv at hl
            have e1 := len_at HT5.out.net
            have e2 := len_at hT3.net
            have hm' : lenAt wb gN < lenAt wr gN := by omega
            have HT3 := Lib.hid hT3
            clear hwb hBY hT3 hT2 hn hk ha hBy e1 e2
            go_wp2_with fail
            rw [← HWB.out, ← HBY.out]
            go_wp2_with fail
            rw [hl]
            go_wp2_with fail
            exact ⟨⟨_, _, HT3.out, by omega, HON.out⟩, hm'⟩
    · have hq3 : ¬ (q : Int) < (n : Int) := by omega
      have HTs := Lib.hid hT
      have hon := hW.on
      clear hT hW
      go_wp2_with fail
      go_loopw [] (fun wr => ∃ (v : Value) (ps : List Pk), Sent w.heap.size w wr gN M d s v ps g ∧ ps.length ≤ 500 ∧ ∀ p ∈ ps, 0 < g p) (fun wr => lenAt wr gN)
      case atStart => exact ⟨_, _, HTs.out, hpl, hon⟩
      case round =>
        clear HTs hon hpl
        obtain ⟨v, ps, hT, hpl, hon⟩ := hrel
        have HT5 := Lib.hid hT
        clear hT
        go_wp2_with fail
        refine (len_is gN d _ _ _ _ HT5.out.net).mono ?_
        rintro e w5 ⟨rfl, rfl⟩
        rcases Nat.eq_zero_or_pos ps.length with hz | hz
        · have hz0 : decide (((ps.length : Nat) : Int) > 0) = false := decide_eq_false (by omega)
          go_wp2_with fail
          refine (awake_any _).mono ?_
          rintro e w9 ⟨rfl, hb9⟩
          have hb10 := HT5.out.below.trans (hb9.mono HT5.out.sz)
          go_wp2_with fail
          go_ret
          exact ⟨rfl, hb10⟩
        · have hz0 : decide (((ps.length : Nat) : Int) > 0) = true := decide_eq_true (by omega)
          have htk := take_any gN d s v ps 0 wr HT5.out.net (by omega)
          obtain ⟨y, hy⟩ : ∃ y, y = takeP ps 0 := ⟨_, rfl⟩
          have hc : takeC ps 0 = 0 := if_pos (by omega)
          rw [← hy, hc] at htk
          obtain ⟨m, hm, eP, eL⟩ := take_in hc
          have hmem : y ∈ ps := by rw [hy, eP]; exact List.getElem_mem hm
          have hy0 := hon y hmem
          clear hy eP
          have hyg : (g y == 0) = false := beq_eq_false_iff_ne.2 (by omega)
          have hyd : ¬ g y = 0 := by omega
          unfold pv at htk
          have HTK := Lib.hid htk
          have hon2 : ∀ p ∈ takeL ps 0, 0 < g p := fun p hp => hon p (List.mem_of_mem_eraseIdx (eL ▸ hp))
          have hln : (takeL ps 0).length < ps.length := by rw [eL, List.length_eraseIdx]; split <;> omega
          have HON := Lib.hid hon2
          clear htk hon hon2
          go_wp2_with fail
          refine HTK.out.mono ?_
          rintro e wa ⟨v', rfl, hn, hk, ha⟩
          have hT2 := HT5.out.prog hn hk ha
          have hT3 := hT2.stay ((Below.refl _ wa).alloc (Nat.le_refl _) (.cells #[.int .i64 y.f, .int .i64 y.t, .string (bs y.d)] 30))
          have hBy := Blk.new wa 30 #[.int .i64 y.f, .int .i64 y.t, .string (bs y.d)]
          obtain ⟨wb, hwb⟩ : ∃ wb, wb = wa.alloc (.cells #[.int .i64 y.f, .int .i64 y.t, .string (bs y.d)] 30) := ⟨_, rfl⟩
          rw [← hwb] at hT3 hBy
          obtain ⟨By, hBY⟩ : ∃ By, By = wa.heap.size := ⟨_, rfl⟩
          rw [← hBY] at hBy
          obtain ⟨y0, y1, y2⟩ := blk3 hBy
          have HWB := Lib.hid hwb
          have HBY := Lib.hid hBY
          have hl := hT3.map.look y
          unfold pv at hl
          have e1 := len_at HT5.out.net
          have e2 := len_at hT3.net
          have hm' : lenAt wb gN < lenAt wr gN := by omega
          have HT3 := Lib.hid hT3
          clear hwb hBY hT3 hT2 hn hk ha hBy e1 e2
          go_wp2_with fail
          rw [← HWB.out, ← HBY.out]
          go_wp2_with fail
          rw [hl]
          go_wp2_with fail
          exact ⟨⟨_, _, HT3.out, by omega, HON.out⟩, hm'⟩
end Go.Proofs.Ytnefjmgpbbgifaa
