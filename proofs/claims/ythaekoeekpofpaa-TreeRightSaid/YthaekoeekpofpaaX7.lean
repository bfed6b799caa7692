/- right: are nodes a tree?; the walk of TreeRight. -/
import Derived.Test.YthaekoeekpofpaaX7a
namespace Go.Proofs.Ythaekoeekpofpaa
open Go.RowKit
attribute [local go_sem] bs_size bs_getElem bs_list bs_append

theorem after_less {a b : St} {W : World} (x : After W) {r : Bool} (hr : lessS a b = r) : Calls Try.prog 41 #[.agg #[.int .i64 a.1, .int .i64 a.2], .agg #[.int .i64 b.1, .int .i64 b.2]] x.wd fun e w' => e = .returned (.bool r) ∧ ∃ y : After W, w' = y.wd := after_call (by rw [← hr]; exact less_any a b x.wd)
theorem run_neq_st1 (a : St) (w : World) : (binOp .neq 30 (.agg #[.int .i64 a.1, .int .i64 a.2]) (.agg #[.int .i64 a.1, .int .i64 a.2])).run Try.prog w = .ok (.bool false) w := run_neq_st2 (a := a) rfl w

set_option maxRecDepth 100000 in
set_option maxHeartbeats 3200000 in
theorem right_any (A : Option Addr) (n c : Nat) (xs : List Nd) (w : World) (hx : Nds w A n c xs) (hm : n ≤ 1000000) (ht : Tree xs) :
    Calls Try.prog 22 #[.slice A n c] w fun e w' => e = .returned (.bool true) ∧ Below w.heap.size w w' := by
  have hn := hx.len
  have hmx := hx.max
  have hle := hx.le
  have HX := Lib.hid hx
  have HT := Lib.hid ht
  clear hx ht
  go_enter Try.func22, Try.ntmps22
  go_wp2_with fail
  go_loopw [3] (fun i wr => ∃ k : Nat, k ≤ n ∧ i = .int .i64 k ∧ Below w.heap.size w wr) (fun i _ => n - (intOf i).toNat)
  case atStart => exact ⟨0, by omega, rfl, Below.refl _ _⟩
  case round =>
    obtain ⟨k, hk, rfl, hb⟩ := hrel
    rcases Nat.lt_or_ge k n with hlt | hge
    · have hkl : k < xs.length := by omega
      obtain ⟨b, off, rfl, hbl, c0, c1, c2, c3, c4, c5, c6, _⟩ := Nds.at_ (HX.out.below hb) hkl
      have hmem : xs[k] ∈ xs := List.getElem_mem hkl
      obtain ⟨cn, r, hc1, hc2, hc3, hc4, hc5⟩ := HT.out.chain hmem
      have hpar := HT.out.par _ hmem
      have hki : (k : Int) < (n : Int) := by omega
      have HB := Lib.hid hb
      have HSl := Lib.hid (HX.out.below hb)
      have hprev : ∀ (j : Nat), k = j + 1 → ∃ z : Nd, lessS z.id xs[k].id = true ∧ wr.cell? ⟨b, off + j * 7, none⟩ = some (.int .i64 z.id.1) ∧ wr.cell? ⟨b, off + j * 7 + 1, none⟩ = some (.int .i64 z.id.2) := fun j hj => by
        have hjl : j < xs.length := by omega
        obtain ⟨b2, off2, e2, _, d0, d1, _⟩ := Nds.at_ HSl.out hjl
        cases e2
        have := List.pairwise_iff_getElem.1 HT.out.sorted j k hjl hkl (by omega)
        exact ⟨xs[j], this, d0, d1⟩
      have HPv := Lib.hid hprev
      generalize xs[k] = x at *
      clear hprev hb hmem hkl
      have HPar := Lib.hid hpar
      have HC1 := Lib.hid hc1
      have HC2 := Lib.hid hc2
      have HC3 := Lib.hid hc3
      have HC4 := Lib.hid hc4
      have HC5 := Lib.hid hc5
      clear hpar hc1 hc2 hc3 hc4 hc5
      have m0 := fun x1 : After wr => x1.cell c0
      have m1 := fun x1 : After wr => x1.cell c1
      by_cases hk0 : (k : Int) > 0
      case' pos =>
        obtain ⟨z, hlz, d0, d1⟩ := HPv.out (k - 1) (by omega)
        have HL := Lib.hid hlz
        have hd : decide ((k : Int) > 0) = true := decide_eq_true hk0
        have hdn : decide (0 < k) = true := decide_eq_true (by omega)
        have hw1 : IntKind.i64.wrap ((k : Int) - 1) = (k : Int) - 1 := IntWalk.i64_in _ (by omega)
        have hw2 : 0 ≤ (k : Int) - 1 := by omega
        have hw3 : (k : Int) - 1 < (n : Int) := by omega
        have hw4 : ((k : Int) - 1).toNat = k - 1 := by omega
        clear hlz hk0 HPv
        have l0 := fun x1 : After wr => x1.cell d0
        have l1 := fun x1 : After wr => x1.cell d1
        go_upto_region 4 with (fail)
        refine wp_region_after (by kernel_rfl) (by kernel_rfl) ?_
        repeat (go_big_quiet_step ((go_at_call 41; exact after_less _ HL.out)))
      case' neg =>
        have hd : decide ((k : Int) > 0) = false := decide_eq_false hk0
        have hdn : decide (0 < k) = false := decide_eq_false (by omega)
        clear hk0 HPv
        go_upto_region 4 with (fail)
        refine wp_region_after (by kernel_rfl) (by kernel_rfl) ?_
        repeat (go_big_quiet_step (fail))
      all_goals
        refine wpQuiet_nil ?_
        clear m0 m1
        rintro _ ⟨x1, rfl⟩
        have HB1 := Lib.hid (HB.out.trans (x1.below.mono HB.out.size))
        have HS1 := Lib.hid (HSl.out.below x1.below)
        have e0 := x1.cell c0
        have e1 := x1.cell c1
        have e3 := x1.cell c3
        have e4 := x1.cell c4
        clear c0 c1 c2 c3 c4 c5 c6
        generalize x1.wd = w1 at *
        clear x1
        have HCh := Lib.hid (chain_any x.id _ n c xs w1 HS1.out hm)
        unfold sv at HCh
        go_wp2_with fail
        refine HCh.out.mono ?_
        rintro e w2 ⟨v2, rfl, hO2, hb2⟩
        obtain ⟨A2, cc2, rfl, hT2⟩ := hO2.sts
        rw [HC1.out] at hT2 ⊢
        have HB2 := Lib.hid (HB1.out.trans (hb2.mono HB1.out.size))
        have HS2 := Lib.hid (HS1.out.below hb2)
        have hbl1 := cell_lt e0
        have e0 := cell_below hb2 hbl1 e0
        have e1 := cell_below hb2 hbl1 e1
        have e3 := cell_below hb2 hbl1 e3
        have e4 := cell_below hb2 hbl1 e4
        have hcl := HC1.out
        obtain ⟨b2, off2, rfl, hbl2, g0, g1⟩ := Sts.at_ hT2 (k := 0) (by omega)
        obtain ⟨b3, off3, e5, _, g2, g3⟩ := Sts.at_ hT2 (k := 1) (by omega)
        cases e5
        obtain ⟨b3, off3, e5, _, g4, g5⟩ := Sts.at_ hT2 (k := cn + 1) (by omega)
        cases e5
        have q0 : (chainN xs x.id)[0] = x.id := by have := HC2.out; rw [List.getElem?_eq_getElem (by omega)] at this; exact Option.some.inj this
        have q1 : (chainN xs x.id)[1] = x.par := by have := HC3.out; rw [List.getElem?_eq_getElem (by omega)] at this; exact Option.some.inj this
        have q2 : (chainN xs x.id)[cn + 1] = r := by have := HC4.out; rw [List.getElem?_eq_getElem (by omega)] at this; exact Option.some.inj this
        rw [q0] at g0 g1
        rw [q1] at g2 g3
        rw [q2] at g4 g5
        have hle2 := hT2.le
        have hmx2 := hT2.max
        simp only [Nat.zero_mul, Nat.add_zero, Nat.one_mul] at g0 g1 g2 g3
        have hne1 := run_neq_st1 x.id
        have hne2 := run_neq_st1 x.par
        have hl2 : decide ((cn : Int) + 2 < 2) = false := decide_eq_false (by omega)
        clear q0 q1 q2 hcl hO2 hb2 hT2 HCh hbl1
        go_upto_region 7 with (fail)
        go_quiet (fail)
        try clear l0 l1 d0 d1 hw1 hw2 hw3 hw4
        have HB3 := Lib.hid ((below_drewN HB2.out nq).alloc (below_drewN HB2.out nq).size (.cells #[.int .i64 r.1, .int .i64 r.2] 30))
        have HS3 := Lib.hid (HS2.out.below ((below_drewN (Below.refl _ w2) nq).alloc (Nat.le_refl _) (.cells #[.int .i64 r.1, .int .i64 r.2] 30)))
        have hbl1 := cell_lt e0
        have e0 := cell_below ((below_drewN (Below.refl _ w2) nq).alloc (Nat.le_refl _) (.cells #[.int .i64 r.1, .int .i64 r.2] 30)) hbl1 e0
        have e1 := cell_below ((below_drewN (Below.refl _ w2) nq).alloc (Nat.le_refl _) (.cells #[.int .i64 r.1, .int .i64 r.2] 30)) hbl1 e1
        have e3 := cell_below ((below_drewN (Below.refl _ w2) nq).alloc (Nat.le_refl _) (.cells #[.int .i64 r.1, .int .i64 r.2] 30)) hbl1 e3
        have e4 := cell_below ((below_drewN (Below.refl _ w2) nq).alloc (Nat.le_refl _) (.cells #[.int .i64 r.1, .int .i64 r.2] 30)) hbl1 e4
        have g4 := cell_below (below_drewN (Below.refl _ w2) nq) (cell_lt g4) g4
        have g5 := cell_below (below_drewN (Below.refl _ w2) nq) (cell_lt g5) g5
        obtain ⟨w3, hw3⟩ : ∃ w3, w3 = w2.drewN nq := ⟨_, rfl⟩
        rw [← hw3] at HB3 HS3 e0 e1 e3 e4 g4 g5 ⊢
        clear hw3 g0 g1 g2 g3 hbl1 HC2 HC3 HC4 HS1 HB1 HB2 HS2 hne1 hne2
        have HFd := Lib.hid (find_any x.par (some ⟨b, off, none⟩) n c xs _ HS3.out)
        unfold sv at HFd
        have hpar : (hasN x.par xs = false) ∨ (hasN x.par xs = true ∧ (findN x.par xs).dir = true) := by
          rcases HPar.out with h | h
          · exact .inl (HT.out.no_rt h)
          · exact .inr h
        generalize hasN x.par xs = hp at *
        generalize findN x.par xs = y at *
        unfold nv at HFd
        rcases HC5.out with rfl | rfl <;> rcases hpar with rfl | ⟨rfl, hpd⟩
        all_goals
          dsimp only at g4 g5 HFd HB3 HS3 e0 e1 e3 e4
          clear HC5 HPar
          go_wp2_with fail
          refine HFd.out.mono ?_
          rintro e w4 ⟨rfl, hb4⟩
          have HB4 := Lib.hid ((HB3.out.trans (hb4.mono HB3.out.size)).alloc (HB3.out.trans (hb4.mono HB3.out.size)).size (.cells (nc y).toArray 37))
          have g2 := (Blk.new w4 37 (nc y).toArray).cell 2
          unfold nc at g2 HB4
          simp only [List.getElem?_toArray, List.getElem?_cons_zero, List.getElem?_cons_succ] at g2
          clear hb4 HFd HB3 HS3 e0 e1 e3 e4 g4 g5
          try rw [hpd] at HB4
          go_wp2_with fail
          exact ⟨⟨k + 1, by omega, by go_num, HB4.out⟩, by simp [intOf]; omega⟩
    · have hkn : ¬ (k : Int) < (n : Int) := by omega
      have HB := Lib.hid hb
      clear hb
      go_wp2_with fail
      go_ret
      exact ⟨rfl, HB.out⟩

theorem tree_take (l : List TOp) (k : Nat) (h : ownB l = true) : Tree (foldN (l.take k)) := Tree.fold_ _ (by
  unfold ownB at h ⊢
  rw [List.all_eq_true] at h ⊢
  exact fun x hx => h x (List.mem_of_mem_take hx))

set_option maxRecDepth 100000 in
set_option maxHeartbeats 3200000 in
theorem law_right (A : Option Addr) (n c : Nat) (l : List TOp) (w : World) (hx : Ops w A n c l) :
    Calls Try.prog 7 #[.slice A n c] w fun e w' => e = .returned (.bool true) ∧ Below w.heap.size w w' := by
  have hn := hx.len
  have hmx := hx.max
  have hle := hx.le
  have HX := Lib.hid hx
  have HF := Lib.hid (few_is A n c l w hx)
  clear hx
  have fin : ∀ (w' : World), RowKit.Hid (Below w.heap.size w w') → Calls Try.prog 15 #[] w' (fun e w'' => e = .returned (.bool true) ∧ Below w.heap.size w w'' ∧ w'.heap.size ≤ w''.heap.size) := fun w' h => (awake_any w').mono fun e w'' hq => ⟨hq.1, h.out.trans (hq.2.mono h.out.size), hq.2.size⟩
  have HFin := Lib.hid fin
  have HOw := Lib.hid (fun (w' : World) (h : Ops w' A n c l) => own_is A n c l w' h)
  clear fin
  cases hfb : fewB l with
  | false =>
    rw [hfb] at HF
    clear hfb
    go_enter Try.func7, Try.ntmps7
    go_wp2_with fail
    refine HF.out.mono ?_
    rintro e w2 ⟨rfl, hb2⟩
    have HB2 := Lib.hid hb2
    clear hb2
    go_wp2_with fail
    refine (HFin.out w2 HB2).mono ?_
    rintro e w3 ⟨rfl, hb3, _⟩
    have HB3 := Lib.hid hb3
    clear hb3
    go_wp2_with fail
    go_ret
    exact ⟨rfl, HB3.out⟩
  | true =>
    rw [hfb] at HF
    have HM : RowKit.Hid (n ≤ 1000) := Lib.hid (by have := fewB_le hfb; omega)
    clear hfb
    by_cases h60 : (n : Int) > 60
    · have hd : decide ((n : Int) > 60) = true := decide_eq_true h60
      clear h60
      go_enter Try.func7, Try.ntmps7
      go_wp2_with fail
      refine HF.out.mono ?_
      rintro e w2 ⟨rfl, hb2⟩
      have HB2 := Lib.hid hb2
      clear hb2
      go_wp2_with fail
      refine (HFin.out w2 HB2).mono ?_
      rintro e w3 ⟨rfl, hb3, _⟩
      have HB3 := Lib.hid hb3
      clear hb3
      go_wp2_with fail
      go_ret
      exact ⟨rfl, HB3.out⟩
    have hd : decide ((n : Int) > 60) = false := decide_eq_false h60
    have hn60 : n ≤ 60 := by omega
    clear h60
    cases hob : ownB l with
    | false =>
      rw [hob] at HOw
      clear hob
      go_enter Try.func7, Try.ntmps7
      go_wp2_with fail
      refine HF.out.mono ?_
      rintro e w2 ⟨rfl, hb2⟩
      have HX2 := Lib.hid (HX.out.below hb2)
      have HB2 := Lib.hid hb2
      clear hb2
      go_wp2_with fail
      refine (HOw.out w2 HX2.out).mono ?_
      rintro e w3 ⟨rfl, hb3⟩
      have HB3 := Lib.hid (HB2.out.trans (hb3.mono HB2.out.size))
      clear hb3
      go_wp2_with fail
      refine (HFin.out w3 HB3).mono ?_
      rintro e w4 ⟨rfl, hb4, _⟩
      have HB4 := Lib.hid hb4
      clear hb4
      go_wp2_with fail
      go_ret
      exact ⟨rfl, HB4.out⟩
    | true =>
      rw [hob] at HOw
      have HTr := Lib.hid (fun k : Nat => tree_take l k hob)
      clear hob
      go_enter Try.func7, Try.ntmps7
      go_wp2_with fail
      refine HF.out.mono ?_
      rintro e w2 ⟨rfl, hb2⟩
      have HX2 := Lib.hid (HX.out.below hb2)
      have HB2 := Lib.hid hb2
      clear hb2 HF
      go_wp2_with fail
      refine (HOw.out w2 HX2.out).mono ?_
      rintro e w3 ⟨rfl, hb3⟩
      have HB3 := Lib.hid (HB2.out.trans (hb3.mono HB2.out.size))
      clear hb3
      go_wp2_with fail
      go_loopw [3, 4] (fun u i wr => ∃ k : Nat, k ≤ n ∧ i = .int .i64 k ∧ (∃ A2 n2 c2, u = .slice A2 n2 c2 ∧ Nds wr A2 n2 c2 (foldN (l.take k))) ∧ Below w.heap.size w wr) (fun _ i _ => n - (intOf i).toNat)
      case atStart => exact ⟨0, by omega, rfl, ⟨none, 0, 0, rfl, Sl.nil_⟩, HB3.out⟩
      case round =>
        obtain ⟨k, hk, rfl, ⟨A2, n2, c2, rfl, hN⟩, hb⟩ := hrel
        rcases Nat.lt_or_ge k n with hlt | hge
        · have hkl : k < l.length := by omega
          obtain ⟨b, off, rfl, hbl, c0, c1, c2', c3, c4, c5, c6, c7, c8, c9, c10, m1, m2⟩ := Ops.at_ (HX.out.below hb) hkl
          have hnext := foldN_take l k hkl
          have hlen : n2 ≤ 60 := by
            have h1 := hN.len
            have h2 := foldN_len (l.take k)
            rw [List.length_take] at h2
            omega
          have hop : OpS l[k] := ⟨m1, m2⟩
          have hlen2 := doN_len (foldN (l.take k)) l[k]
          have hlen3 := hN.len
          generalize l[k] = x at *
          have hki : (k : Int) < (n : Int) := by omega
          have HD := Lib.hid (do_any x A2 n2 c2 (foldN (l.take k)) _ hN hop (by omega))
          have HT := Lib.hid (HTr.out (k + 1))
          rw [hnext] at HT
          have HNx := Lib.hid hnext
          generalize doN (foldN (l.take k)) x = ys at *
          have HR := Lib.hid (fun (A3 : Option Addr) (c3 : Nat) (w' : World) (h : Nds w' A3 ys.length c3 ys) => right_any A3 ys.length c3 ys w' h (by omega) HT.out)
          have HB := Lib.hid hb
          have HS := Lib.hid hb.size
          clear hb hN hnext hop m1 m2 hkl hlen2 hlen3
          unfold ov at HD
          go_wp2_with fail
          refine HD.out.mono ?_
          rintro e w4 ⟨A3, c3', rfl, hN3, hb3⟩
          have HN3 := Lib.hid hN3
          have HB4 := Lib.hid (HB.out.trans (hb3.mono HS.out))
          clear hN3 hb3 c0 c1 c2' c3 c4 c5 c6 c7 c8 c9 c10 hbl HD
          go_wp2_with fail
          refine (HR.out A3 c3' w4 HN3.out).mono ?_
          rintro e w5 ⟨rfl, hb5⟩
          have HN5 := Lib.hid (HN3.out.below hb5)
          have HB5 := Lib.hid (HB4.out.trans (hb5.mono HB4.out.size))
          clear hb5
          go_wp2_with fail
          exact ⟨⟨k + 1, by omega, by go_num, ⟨_, _, _, rfl, by rw [HNx.out]; exact HN5.out⟩, HB5.out⟩, by simp [intOf]; omega⟩
        · have hkn : ¬ (k : Int) < (n : Int) := by omega
          have hfin : l.take k = l := List.take_of_length_le (by omega)
          rw [hfin] at hN
          have h2 := hN.len
          subst h2
          have HN := Lib.hid hN
          have HXr := Lib.hid (HX.out.below hb)
          have HB := Lib.hid hb
          have HFo := Lib.hid (fun (w' : World) (h : Ops w' A n c l) => fold_any A n c l w' h HM.out)
          generalize foldN l = fs at *
          clear hb hN hfin
          go_wp2_with fail
          refine (HFo.out wr HXr.out).mono ?_
          rintro e w4 ⟨A4, c4, rfl, hN4, hb4⟩
          have HN4 := Lib.hid hN4
          have HNb := Lib.hid (HN.out.below hb4)
          have HB4 := Lib.hid (HB.out.trans (hb4.mono HB.out.size))
          clear hN4 hb4
          go_wp2_with fail
          refine (same_any _ _ _ _ _ fs w4 HNb.out HN4.out).mono ?_
          rintro e w5 ⟨rfl, hb5⟩
          have HB5 := Lib.hid (HB4.out.trans (hb5.mono HB4.out.size))
          clear hb5
          go_wp2_with fail
          refine (HFin.out w5 HB5).mono ?_
          rintro e w6 ⟨rfl, hb6, _⟩
          have HB6 := Lib.hid hb6
          clear hb6
          go_wp2_with fail
          go_ret
          exact ⟨rfl, HB6.out⟩
end Go.Proofs.Ythaekoeekpofpaa
