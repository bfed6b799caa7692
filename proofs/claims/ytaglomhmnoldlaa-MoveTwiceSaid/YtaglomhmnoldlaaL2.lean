/- The walk of MoveTwice. -/
import Derived.Test.YtaglomhmnoldlaaAx
namespace Go.Proofs.Ytaglomhmnoldlaa
open Go.RowKit
attribute [local go_sem] bs_size bs_getElem bs_list bs_append

def twA (a : St) : TOp := ⟨a, 0, 2, (1, 0), false, (2, 0), [120], []⟩
def twB (b : St) : TOp := ⟨b, 0, 2, (2, 0), false, (1, 0), [121], []⟩
theorem tw_s (a : St) : OpS (twA a) ∧ OpS (twB a) := ⟨⟨by simp [twA], by simp [twA]⟩, by simp [twB], by simp [twB]⟩
def twX : TOp := ⟨(1, 0), 0, 1, (1, 0), true, (0, 0), [120], []⟩
def twY : TOp := ⟨(2, 0), 0, 1, (2, 0), true, (0, 0), [121], []⟩
theorem add_nil (x : TOp) (h : rightS x.st = true) : codeO [] x = 0 ∧ insO [] x = [x] := by
  have hc : codeO [] x = 0 := codeO_zero.2 ⟨h, by simp [hasO], by simp⟩
  exact ⟨hc, by unfold insO; rw [if_pos hc]; simp [addO, atO]⟩
theorem add_one {p x : TOp} (h : rightS x.st = true) (hne : p.st ≠ x.st) : codeO [p] x = 0 ∧ insO [p] x = if lessS p.st x.st then [p, x] else [x, p] := by
  have hs : Sorted [p] := by unfold Sorted; simp
  have hh : hasO [p] x.st = false := by
    cases h1 : hasO [p] x.st with
    | false => rfl
    | true =>
      obtain ⟨y, hy, he⟩ := (hasO_iff hs).1 h1
      rw [List.mem_singleton.1 hy] at he
      exact absurd he hne
  have hc : codeO [p] x = 0 := codeO_zero.2 ⟨h, hh, by simp⟩
  refine ⟨hc, ?_⟩
  unfold insO
  rw [if_pos hc]
  unfold addO atO
  cases hl : lessS p.st x.st <;> simp [hl]
theorem add_two {p q : TOp} (hp : 3 ≤ p.st.1) (hq : 3 ≤ q.st.1) (hs : Sorted [p, q]) : (codeO [p, q] twX = 0 ∧ insO [p, q] twX = [twX, p, q]) ∧ codeO [twX, p, q] twY = 0 ∧ insO [twX, p, q] twY = [twX, twY, p, q] := by
  have h1 : lessS p.st (1, 0) = false := by unfold lessS; simp; omega
  have h2 : lessS p.st (2, 0) = false := by unfold lessS; simp; omega
  have hh1 : hasO [p, q] twX.st = false := by
    cases h1 : hasO [p, q] twX.st with
    | false => rfl
    | true =>
      obtain ⟨y, hy, he⟩ := (hasO_iff hs).1 h1
      have h3 : y.st.1 = 1 := by rw [he]; rfl
      simp at hy
      rcases hy with rfl | rfl <;> omega
  have hc : codeO [p, q] twX = 0 := codeO_zero.2 ⟨by decide, hh1, by simp⟩
  have hi : insO [p, q] twX = [twX, p, q] := by
    unfold insO
    rw [if_pos hc]
    unfold addO atO
    have : lessS p.st twX.st = false := h1
    simp [this]
  have hs3 : Sorted [twX, p, q] := by rw [← hi]; exact insO_sorted hs _
  have hh2 : hasO [twX, p, q] twY.st = false := by
    cases h1 : hasO [twX, p, q] twY.st with
    | false => rfl
    | true =>
      obtain ⟨y, hy, he⟩ := (hasO_iff hs3).1 h1
      have h3 : y.st.1 = 2 := by rw [he]; rfl
      simp at hy
      rcases hy with rfl | rfl | rfl
      · have : twX.st.1 = 1 := rfl
        omega
      · omega
      · omega
  have hc2 : codeO [twX, p, q] twY = 0 := codeO_zero.2 ⟨by decide, hh2, by simp⟩
  refine ⟨⟨hc, hi⟩, hc2, ?_⟩
  unfold insO
  rw [if_pos hc2]
  unfold addO atO
  have e1 : lessS p.st twY.st = false := h2
  have e2 : lessS twX.st twY.st = true := by decide
  simp [e1, e2]
def twN1 : List Nd := [⟨(1, 0), true, (2, 0), [120], []⟩, ⟨(2, 0), true, (0, 0), [121], []⟩]
def twN2 : List Nd := [⟨(1, 0), true, (0, 0), [120], []⟩, ⟨(2, 0), true, (1, 0), [121], []⟩]
theorem tw_fold1 (a b : St) : foldN [twX, twY, twA a, twB b] = twN1 := by rfl
theorem tw_fold2 (a b : St) : foldN [twX, twY, twB b, twA a] = twN2 := by rfl

set_option maxRecDepth 100000 in
set_option maxHeartbeats 3200000 in
theorem law_twice (a b : St) (w : World) : Calls Try.prog 4 #[sv a, sv b] w fun e w' => e = .returned (.bool true) ∧ Below w.heap.size w w' := by
  obtain ⟨w1, hw1⟩ : ∃ w1, w1 = (w.alloc (.cells #[.int .i64 a.1, .int .i64 a.2] 27)).alloc (.cells #[.int .i64 b.1, .int .i64 b.2] 27) := ⟨_, rfl⟩
  have hb1 : Below w.heap.size w w1 := by rw [hw1]; exact ((Below.refl _ w).alloc (Nat.le_refl _) _).alloc (by simp) _
  have hA : Blk w1 w.heap.size 27 #[.int .i64 a.1, .int .i64 a.2] := by rw [hw1]; exact (Blk.new w 27 _).alloc _
  have hB : Blk w1 (w.heap.size + 1) 27 #[.int .i64 b.1, .int .i64 b.2] := by
    rw [hw1]
    have := Blk.new (w.alloc (.cells #[.int .i64 a.1, .int .i64 a.2] 27)) 27 #[.int .i64 b.1, .int .i64 b.2]
    simpa using this
  have HW := Lib.hid hw1
  have HB1 := Lib.hid hb1
  have HA := Lib.hid hA
  have HBb := Lib.hid hB
  have hcells : RowKit.Hid (∀ w' : World, Below w1.heap.size w1 w' → w'.cell? ⟨w.heap.size, 0, none⟩ = some (.int .i64 a.1) ∧ w'.cell? ⟨w.heap.size, 1, none⟩ = some (.int .i64 a.2) ∧ w'.cell? ⟨w.heap.size + 1, 0, none⟩ = some (.int .i64 b.1) ∧ w'.cell? ⟨w.heap.size + 1, 1, none⟩ = some (.int .i64 b.2)) := Lib.hid (fun w' hb => by
    have h1 := HA.out.below hb HA.out.lt
    have h2 := HBb.out.below hb HBb.out.lt
    exact ⟨by rw [h1.cell]; rfl, by rw [h1.cell]; rfl, by rw [h2.cell]; rfl, by rw [h2.cell]; rfl⟩)
  obtain ⟨a0, a1, b0, b1⟩ := hcells.out w1 (Below.refl _ _)
  clear hw1 hb1 hA hB
  unfold sv
  cases hr1 : rightS a with
  | false =>
    have HR1 := Lib.hid hr1
    go_enter Try.func4, Try.ntmps4
    go_upto_region 1 with (fail)
    rw [← HW.out]
    go_wp2_with (first | (go_at_call 14; refine (right_st _ _).mono ?_; rintro e w2 ⟨rfl, hb2⟩; rw [HR1.out]; have HB2 := Lib.hid (HB1.out.trans (hb2.mono HB1.out.size)); clear hb2 a0 a1 b0 b1) | (go_at_call 9; refine (awake_any _).mono ?_; rintro e w9 ⟨rfl, hb9⟩; have HB9 := Lib.hid (HB2.out.trans (hb9.mono HB2.out.size)); clear hb9))
    go_ret
    exact ⟨rfl, HB9.out⟩
  | true =>
  have HR1 := Lib.hid hr1
  clear hr1
  have AW : RowKit.Hid (∀ w2, Below w.heap.size w w2 → Calls Try.prog 9 #[] w2 fun e w' => e = .returned (.bool true) ∧ Below w.heap.size w w') := Lib.hid (fun w2 hb => (awake_any w2).mono fun e w9 h => ⟨h.1, hb.trans (h.2.mono hb.size)⟩)
  have k0 := fun (w2 : World) (h : Below w1.heap.size w1 w2) => (hcells.out w2 h)
  have HK := Lib.hid k0
  clear k0
  cases hr2 : rightS b with
  | false =>
    have HR2 := Lib.hid hr2
    clear hr2
    go_enter Try.func4, Try.ntmps4
    go_upto_region 1 with (fail)
    rw [← HW.out]
    go_wp2_with fail
    refine (right_st a _).mono ?_
    rintro e w2 ⟨rfl, hb2⟩
    rw [HR1.out]
    clear a0 a1 b0 b1
    obtain ⟨a0, a1, b0, b1⟩ := HK.out _ hb2
    have HB2 := Lib.hid hb2
    clear hb2
    go_wp2_with fail
    refine (right_st b _).mono ?_
    rintro e w3 ⟨rfl, hb3⟩
    rw [HR2.out]
    clear a0 a1 b0 b1
    have HB3a := Lib.hid (HB2.out.trans (hb3.mono HB2.out.size))
    have HB3 := Lib.hid (HB1.out.trans (HB3a.out.mono HB1.out.size))
    clear hb3
    go_wp2_with fail
    refine (AW.out _ HB3.out).mono ?_
    rintro e w9 ⟨rfl, hb9⟩
    have HB9 := Lib.hid hb9
    clear hb9
    go_wp2_with fail
    go_ret
    exact ⟨rfl, HB9.out⟩
  | true =>
    have HR2 := Lib.hid hr2
    clear hr2
    have he := run_eql_st a b
    go_enter Try.func4, Try.ntmps4
    go_upto_region 1 with (fail)
    rw [← HW.out]
    go_wp2_with fail
    refine (right_st a _).mono ?_
    rintro e w2 ⟨rfl, hb2⟩
    rw [HR1.out]
    clear a0 a1 b0 b1
    obtain ⟨a0, a1, b0, b1⟩ := HK.out _ hb2
    have HB2 := Lib.hid hb2
    clear hb2
    go_wp2_with fail
    refine (right_st b _).mono ?_
    rintro e w3 ⟨rfl, hb3⟩
    rw [HR2.out]
    clear a0 a1 b0 b1
    have HB3a := Lib.hid (HB2.out.trans (hb3.mono HB2.out.size))
    have HB3 := Lib.hid (HB1.out.trans (HB3a.out.mono HB1.out.size))
    clear hb3
    obtain ⟨a0, a1, b0, b1⟩ := HK.out _ HB3a.out
    cases q1 : decide (a = b) with
    | true =>
      rw [q1] at he
      clear q1
      go_wp2_with fail
      refine (AW.out _ HB3.out).mono ?_
      rintro e w9 ⟨rfl, hb9⟩
      have HB9 := Lib.hid hb9
      clear hb9
      go_wp2_with fail
      go_ret
      exact ⟨rfl, HB9.out⟩
    | false =>
    rw [q1] at he
    have Q1 := Lib.hid (of_decide_eq_false q1)
    clear q1
    cases q2 : decide (a.1 < 3) with
    | true =>
      go_wp2_with fail
      refine (AW.out _ HB3.out).mono ?_
      rintro e w9 ⟨rfl, hb9⟩
      have HB9 := Lib.hid hb9
      clear hb9
      go_wp2_with fail
      go_ret
      exact ⟨rfl, HB9.out⟩
    | false =>
    have Q2 := Lib.hid (of_decide_eq_false q2)
    cases q3 : decide (b.1 < 3) with
    | true =>
      go_wp2_with fail
      refine (AW.out _ HB3.out).mono ?_
      rintro e w9 ⟨rfl, hb9⟩
      have HB9 := Lib.hid hb9
      clear hb9
      go_wp2_with fail
      go_ret
      exact ⟨rfl, HB9.out⟩
    | false =>
    have Q3 := Lib.hid (of_decide_eq_false q3)
    go_upto_region 3 with (fail)
    clear q2 q3 he
    obtain ⟨N3, hN3⟩ : ∃ N, N = w3.heap.size := ⟨_, rfl⟩
    obtain ⟨w4, hw4⟩ : ∃ w4, w4 = (w3.alloc (.cells #[.int .i64 1, .int .i64 0] 27)).alloc (.cells #[.int .i64 2, .int .i64 0] 27) := ⟨_, rfl⟩
    have hb4 : Below w3.heap.size w3 w4 := by rw [hw4]; exact ((Below.refl _ w3).alloc (Nat.le_refl _) _).alloc (by simp) _
    have hX : Blk w4 N3 27 #[.int .i64 1, .int .i64 0] := by rw [hw4, hN3]; exact (Blk.new w3 27 _).alloc _
    have hY : Blk w4 (N3 + 1) 27 #[.int .i64 2, .int .i64 0] := by
      rw [hw4, hN3]
      have := Blk.new (w3.alloc (.cells #[.int .i64 1, .int .i64 0] 27)) 27 #[.int .i64 2, .int .i64 0]
      simpa using this
    have hc2 : RowKit.Hid (∀ w' : World, Below w4.heap.size w4 w' → (w'.cell? ⟨w.heap.size, 0, none⟩ = some (.int .i64 a.1) ∧ w'.cell? ⟨w.heap.size, 1, none⟩ = some (.int .i64 a.2) ∧ w'.cell? ⟨w.heap.size + 1, 0, none⟩ = some (.int .i64 b.1) ∧ w'.cell? ⟨w.heap.size + 1, 1, none⟩ = some (.int .i64 b.2)) ∧ w'.cell? ⟨N3, 0, none⟩ = some (.int .i64 1) ∧ w'.cell? ⟨N3, 1, none⟩ = some (.int .i64 0) ∧ w'.cell? ⟨N3 + 1, 0, none⟩ = some (.int .i64 2) ∧ w'.cell? ⟨N3 + 1, 1, none⟩ = some (.int .i64 0)) := Lib.hid (fun w' hb => by
      have h1 := hX.below hb hX.lt
      have h2 := hY.below hb hY.lt
      refine ⟨HK.out w' (HB3a.out.trans ((hb4.trans (hb.mono hb4.size)).mono HB3a.out.size)), ?_, ?_, ?_, ?_⟩
      · rw [h1.cell]; rfl
      · rw [h1.cell]; rfl
      · rw [h2.cell]; rfl
      · rw [h2.cell]; rfl)
    have HW4 := Lib.hid hw4
    have HN3 := Lib.hid hN3
    have HB4 := Lib.hid (HB3.out.trans (hb4.mono HB3.out.size))
    have HNew := Lib.hid (new_live w4)
    clear hw4 hN3 hb4 hX hY a0 a1 b0 b1
    go_wp2_with fail
    rw [← HW4.out, ← HN3.out]
    refine HNew.out.mono ?_
    rintro e w5 ⟨rfl, hl⟩
    have HL5 := Lib.hid hl
    obtain ⟨⟨a0, a1, b0, b1⟩, x0, x1, y0, y1⟩ := hc2.out w5 hl.below
    clear hl HNew
    generalize hp : w4.heap.size + 1 = p at *
    have HP := Lib.hid hp
    clear hp
    go_wp2_with fail
    refine (insert_live (twA a) (tw_s a).1 _ _ _ _ _ _ _ HL5.out).mono ?_
    rintro e w6 ⟨v6, rfl, hl, _, _⟩
    rw [(add_nil (twA a) HR1.out).2] at hl
    have HL6 := Lib.hid hl
    clear hl a0 a1 b0 b1 x0 x1 y0 y1
    obtain ⟨⟨a0, a1, b0, b1⟩, x0, x1, y0, y1⟩ := hc2.out w6 HL6.out.below
    go_wp2_with fail
    refine (insert_live (twB b) (tw_s b).2 _ _ _ _ _ _ _ HL6.out).mono ?_
    rintro e w7 ⟨v7, rfl, hl, _, _⟩
    rw [(add_one (p := twA a) (x := twB b) HR2.out Q1.out).2] at hl
    have HL7 := Lib.hid hl
    clear hl a0 a1 b0 b1 x0 x1 y0 y1
    obtain ⟨⟨a0, a1, b0, b1⟩, x0, x1, y0, y1⟩ := hc2.out w7 HL7.out.below
    have hls : (twA a).st = a := rfl
    have hls2 : (twB b).st = b := rfl
    have h3 : ∃ (p q : TOp) (fs : List Nd), (if lessS (twA a).st (twB b).st then [twA a, twB b] else [twB b, twA a]) = [p, q] ∧ 3 ≤ p.st.1 ∧ 3 ≤ q.st.1 ∧ foldN [twX, twY, p, q] = fs ∧ fs = (if lessS a b then twN1 else twN2) := by
      rw [hls, hls2]
      cases lessS a b with
      | true => exact ⟨_, _, _, rfl, Q2.out, Q3.out, tw_fold1 a b, rfl⟩
      | false => exact ⟨_, _, _, rfl, Q3.out, Q2.out, tw_fold2 a b, rfl⟩
    obtain ⟨o1, o2, fs, hpq, hp3, hq3, hfs, hfs2⟩ := h3
    rw [hpq] at HL7
    have h2 := add_two hp3 hq3 HL7.out.mov.sorted
    have HFs := Lib.hid hfs
    have HFs2 := Lib.hid hfs2
    have H2 := Lib.hid h2
    clear hls hls2 hpq hp3 hq3 hfs hfs2 h2
    go_wp2_with fail
    refine (insert_live twX ⟨by decide, by decide⟩ _ _ _ _ _ _ _ HL7.out).mono ?_
    rintro e w8 ⟨v8, rfl, hl, _, _⟩
    rw [H2.out.1.2] at hl
    have HL8 := Lib.hid hl
    clear hl a0 a1 b0 b1 x0 x1 y0 y1
    obtain ⟨⟨a0, a1, b0, b1⟩, x0, x1, y0, y1⟩ := hc2.out w8 HL8.out.below
    go_wp2_with fail
    refine (insert_live twY ⟨by decide, by decide⟩ _ _ _ _ _ _ _ HL8.out).mono ?_
    rintro e w9 ⟨v9, rfl, hl, _, _⟩
    rw [H2.out.2.2] at hl
    have HL9 := Lib.hid hl
    clear hl a0 a1 b0 b1 x0 x1 y0 y1
    have HNd := Lib.hid (nodes_live HL9.out)
    rw [HFs.out] at HNd
    go_wp2_with fail
    refine HNd.out.mono ?_
    rintro e w10 ⟨A10, c10, rfl, hn, hb⟩
    have HL10 := Lib.hid (HL9.out.then_ hb)
    obtain ⟨⟨a0, a1, b0, b1⟩, x0, x1, y0, y1⟩ := hc2.out w10 HL10.out.below
    have hlen : fs.length = 2 := by rw [HFs2.out]; split <;> rfl
    rw [hlen] at hn ⊢
    have HN10 := Lib.hid hn
    have HLen := Lib.hid hlen
    have HB10 := Lib.hid (HB4.out.trans (HL10.out.below.mono HB4.out.size))
    clear hn hb hlen HNd
    go_wp2_with fail
    refine (less_exact a b _).mono ?_
    rintro e w11 ⟨rfl, hw11⟩
    have hb11 : Below w10.heap.size w10 w11 := by rw [hw11]; exact ((Below.refl _ w10).alloc (Nat.le_refl _) _).alloc (by simp) _
    have HB11 := Lib.hid (HB10.out.trans (hb11.mono HB10.out.size))
    have hN11 : Nds w11 A10 2 c10 fs := HN10.out.below hb11
    have hbx := HL10.out.below.trans (hb11.mono HL10.out.below.size)
    clear a0 a1 b0 b1 x0 x1 y0 y1 hw11 hb11
    obtain ⟨⟨a0, a1, b0, b1⟩, x0, x1, y0, y1⟩ := hc2.out w11 hbx
    clear hbx
    have hcc := hN11.max
    have hcl := hN11.le
    cases hl : lessS a b with
    | true =>
      rw [hl] at HFs2
      have e1 : fs = twN1 := HFs2.out
      rw [e1] at hN11
      obtain ⟨bq, oq, rfl, _, _, _, _, p3, p4, _⟩ := hN11.at_ (k := 0) (by decide)
      obtain ⟨_, _, e, _, _, _, _, r3, r4, _⟩ := hN11.at_ (k := 1) (by decide)
      cases e
      have g1 : (twN1[0]'(by decide)).par = (2, 0) := rfl
      have g2 : (twN1[1]'(by decide)).par = (0, 0) := rfl
      rw [g1] at p3 p4
      rw [g2] at r3 r4
      clear hl g1 g2 e1 hN11 HFs HFs2 HN10
      have k0 := fun u : After w11 => u.cell p3
      have k1 := fun u : After w11 => u.cell p4
      have k2 := fun u : After w11 => u.cell r3
      have k3 := fun u : After w11 => u.cell r4
      have k4 := fun u : After w11 => u.cell y0
      have k5 := fun u : After w11 => u.cell y1
      go_upto_region 16 with (fail)
      refine wp_region_after (by kernel_rfl) (by kernel_rfl) ?_
      repeat (go_big_quiet_step ((go_at_call 9; exact after_call (awake_any _))))
      refine wpQuiet_nil ?_
      rintro _ ⟨u, rfl⟩
      go_wp2_with fail
      go_ret
      exact ⟨rfl, HB11.out.trans (u.below.mono HB11.out.size)⟩
    | false =>
      rw [hl] at HFs2
      have e1 : fs = twN2 := HFs2.out
      rw [e1] at hN11
      obtain ⟨bq, oq, rfl, _, _, _, _, p3, p4, _⟩ := hN11.at_ (k := 0) (by decide)
      obtain ⟨_, _, e, _, _, _, _, r3, r4, _⟩ := hN11.at_ (k := 1) (by decide)
      cases e
      have g1 : (twN2[0]'(by decide)).par = (0, 0) := rfl
      have g2 : (twN2[1]'(by decide)).par = (1, 0) := rfl
      rw [g1] at p3 p4
      rw [g2] at r3 r4
      clear hl g1 g2 e1 hN11 HFs HFs2 HN10
      have k0 := fun u : After w11 => u.cell p3
      have k1 := fun u : After w11 => u.cell p4
      have k2 := fun u : After w11 => u.cell r3
      have k3 := fun u : After w11 => u.cell r4
      have k4 := fun u : After w11 => u.cell x0
      have k5 := fun u : After w11 => u.cell x1
      go_upto_region 17 with (fail)
      refine wp_region_after (by kernel_rfl) (by kernel_rfl) ?_
      repeat (go_big_quiet_step ((go_at_call 9; exact after_call (awake_any _))))
      refine wpQuiet_nil ?_
      rintro _ ⟨u, rfl⟩
      go_wp2_with fail
      go_ret
      exact ⟨rfl, HB11.out.trans (u.below.mono HB11.out.size)⟩
end Go.Proofs.Ytaglomhmnoldlaa
