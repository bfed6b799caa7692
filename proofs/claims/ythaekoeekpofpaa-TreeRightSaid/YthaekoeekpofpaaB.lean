/- place, at, Find of both. -/
import Derived.Test.YthaekoeekpofpaaA
import Derived.BigQuiet
namespace Go.Proofs.Ythaekoeekpofpaa
open Go.RowKit
attribute [local go_sem] bs_size bs_getElem bs_list bs_append

theorem below_drewN {B : Nat} {w0 w : World} (h : Below B w0 w) (n : Nat) : Below B w0 (w.drewN n) := ⟨h.os, h.tape, h.output, h.size, h.block⟩

set_option maxRecDepth 100000 in
set_option maxHeartbeats 1600000 in
theorem index_id (q : Nat) (s : St) (A : Option Addr) (n c : Nat) (xs : List Nd) (w : World) (hx : Nds w A n c xs) (hq : w.cell? ⟨q, 0, none⟩ = some (.int .i64 s.1)) (hq1 : w.cell? ⟨q, 1, none⟩ = some (.int .i64 s.2)) :
    Calls Try.prog 42 #[.slice A n c, .func (.func 43) #[] #[.pointer (some ⟨q, 0, none⟩)]] w fun e w' => e = .returned (.int .i64 (firstI (isId s) xs)) ∧ Below w.heap.size w w' := by
  have hql := cell_lt hq
  have hn := hx.len
  have hmx := hx.max
  have hle := hx.le
  have HX := Lib.hid hx
  have HQ := Lib.hid hq
  have HQ1 := Lib.hid hq1
  clear hx hq hq1
  go_enter Try.func42, Try.ntmps42
  go_wp2_with fail
  go_loopw [8] (fun i wr => ∃ k : Nat, k ≤ xs.length ∧ i = .int .i64 k ∧ Below w.heap.size w wr ∧ ∀ j (hj : j < xs.length), j < k → isId s xs[j] = false) (fun i _ => xs.length - (intOf i).toNat)
  case atStart => exact ⟨0, by omega, rfl, Below.refl _ _, fun j _ h => by omega⟩
  case round =>
    obtain ⟨k, hk, rfl, hb, hall⟩ := hrel
    rcases Nat.lt_or_ge k xs.length with hlt | hge
    · obtain ⟨b, off, rfl, hbl, c0, c1, c2, c3, c4, c5, c6, _⟩ := Nds.at_ (HX.out.below hb) hlt
      have hq' := cell_below hb hql HQ.out
      have hq1' := cell_below hb hql HQ1.out
      have HA := Lib.hid hall
      have hcl := clo_id q s xs[k] wr hq' hq1'
      obtain ⟨x, hx⟩ : ∃ x, xs[k] = x := ⟨_, rfl⟩
      rw [hx] at c0 c1 c2 c3 c4 c5 c6 hcl
      unfold nv at hcl
      have HCl := Lib.hid hcl
      have HX2 := Lib.hid hx
      have HB := Lib.hid hb
      have hki : (k : Int) < (n : Int) := by omega
      clear hall hx hb hq' hq1' hcl
      go_wp2_with fail
      refine HCl.out.mono ?_
      rintro e w2 ⟨rfl, hb2⟩
      have hb3 := HB.out.trans (hb2.mono HB.out.size)
      cases hc : isId s x with
      | true =>
        go_wp2_with fail
        have hfin : firstI (isId s) xs = k := firstI_at hlt (by rw [HX2.out]; exact hc) HA.out
        go_ret
        exact ⟨by rw [hfin]; rfl, hb3⟩
      | false =>
        go_wp2_with fail
        exact ⟨⟨k + 1, by omega, by go_num, hb3, fun j hj hjk => by
          by_cases e : j = k
          · subst e; rw [HX2.out]; exact hc
          · exact HA.out j hj (by omega)⟩, by simp [intOf]; omega⟩
    · have hkn : ¬ (k : Int) < (n : Int) := by omega
      have hfin : firstI (isId s) xs = -1 := firstI_none fun j hj => hall j hj (by omega)
      clear hall
      go_wp2_with fail
      go_ret
      exact ⟨rfl, hb⟩

set_option maxRecDepth 100000 in
set_option maxHeartbeats 1600000 in
theorem place_any (s : St) (A : Option Addr) (n c : Nat) (xs : List Nd) (w : World) (hx : Nds w A n c xs) :
    Calls Try.prog 29 #[.slice A n c, sv s] w fun e w' => e = .returned (.int .i64 (firstI (isId s) xs)) ∧ Below w.heap.size w w' := by
  have hb1 : Below w.heap.size w (w.alloc (.cells #[.int .i64 s.1, .int .i64 s.2] 30)) := (Below.refl _ w).alloc (Nat.le_refl _) _
  have hB := Blk.new w 30 #[.int .i64 s.1, .int .i64 s.2]
  have h1 := index_id w.heap.size s A n c xs _ (hx.below hb1) (hB.cell 0) (hB.cell 1)
  have H1 := Lib.hid h1
  have HB := Lib.hid hb1
  clear h1 hb1 hB hx
  unfold sv
  go_enter Try.func29, Try.ntmps29
  go_wp2_with fail
  refine H1.out.mono ?_
  rintro e w2 ⟨rfl, hb2⟩
  have hb3 := HB.out.trans (hb2.mono HB.out.size)
  go_wp2_with fail
  go_ret
  exact ⟨rfl, hb3⟩

set_option maxRecDepth 100000 in
set_option maxHeartbeats 1600000 in
theorem at_any (s : St) (A : Option Addr) (n c : Nat) (xs : List Nd) (w : World) (hx : Nds w A n c xs) :
    Calls Try.prog 35 #[.slice A n c, sv s] w fun e w' => e = .returned (.int .i64 (firstI (isId s) xs)) ∧ Below w.heap.size w w' := by
  have hb1 : Below w.heap.size w (w.alloc (.cells #[.int .i64 s.1, .int .i64 s.2] 30)) := (Below.refl _ w).alloc (Nat.le_refl _) _
  have hB := Blk.new w 30 #[.int .i64 s.1, .int .i64 s.2]
  have hx1 := hx.below hb1
  have q0 := hB.cell 0
  have q1 := hB.cell 1
  simp only [List.getElem?_toArray, List.getElem?_cons_zero, List.getElem?_cons_succ] at q0 q1
  have hn := hx.len
  have hmx := hx.max
  have hle := hx.le
  obtain ⟨w1, hw1⟩ : ∃ w1, w1 = w.alloc (.cells #[.int .i64 s.1, .int .i64 s.2] 30) := ⟨_, rfl⟩
  rw [← hw1] at hB hb1 hx1 q0 q1
  have HW := Lib.hid hw1
  have HX := Lib.hid hx1
  have HB := Lib.hid hb1
  have hs := hb1.size
  obtain ⟨B, hBe⟩ : ∃ B, B = w.heap.size := ⟨_, rfl⟩
  have hB1 := cell_lt q0
  rw [← hBe] at q0 q1 hB1
  have HBe := Lib.hid hBe
  have HQ0 := Lib.hid q0
  have HQ1 := Lib.hid q1
  clear hw1 hx1 hb1 hB hx hBe q0 q1 hs
  unfold sv
  go_enter Try.func35, Try.ntmps35
  go_wp2_with fail
  rw [← HW.out, ← HBe.out]
  go_loopw [5] (fun i wr => ∃ k : Nat, k ≤ xs.length ∧ i = .int .i64 k ∧ Below w1.heap.size w1 wr ∧ ∀ j (hj : j < xs.length), j < k → isId s xs[j] = false) (fun i _ => xs.length - (intOf i).toNat)
  case atStart => exact ⟨0, by omega, rfl, Below.refl _ _, fun j _ h => by omega⟩
  case round =>
    obtain ⟨k, hk, rfl, hb, hall⟩ := hrel
    have hbw := HB.out.trans (hb.mono HB.out.size)
    rcases Nat.lt_or_ge k xs.length with hlt | hge
    · obtain ⟨b, off, rfl, hbl, c0, c1, c2, c3, c4, c5, c6, _⟩ := Nds.at_ (HX.out.below hb) hlt
      have q0 := cell_below hb hB1 HQ0.out
      have q1 := cell_below hb hB1 HQ1.out
      have HA := Lib.hid hall
      obtain ⟨x, hx⟩ : ∃ x, xs[k] = x := ⟨_, rfl⟩
      rw [hx] at c0 c1 c2 c3 c4 c5 c6
      have he := run_eql_st x.id s
      have HX2 := Lib.hid hx
      have HB4 := Lib.hid hb
      have hki : (k : Int) < (n : Int) := by omega
      have hie : isId s x = decide (x.id = s) := rfl
      clear hall hx hb
      cases hc : isId s x with
      | true =>
        rw [hie] at hc
        go_wp2_with fail
        go_quiet (fail)
        have hb5 := Lib.hid (below_drewN hbw nq)
        go_wp2_with fail
        have hfin : firstI (isId s) xs = k := firstI_at hlt (by rw [HX2.out]; exact hc) HA.out
        go_ret
        exact ⟨by rw [hfin]; rfl, hb5.out⟩
      | false =>
        rw [hie] at hc
        go_wp2_with fail
        go_quiet (fail)
        have hb5 := Lib.hid (below_drewN HB4.out nq)
        go_wp2_with fail
        exact ⟨⟨k + 1, by omega, by go_num, hb5.out, fun j hj hjk => by
          by_cases e : j = k
          · subst e; rw [HX2.out]; exact hc
          · exact HA.out j hj (by omega)⟩, by simp [intOf]; omega⟩
    · have hkn : ¬ (k : Int) < (n : Int) := by omega
      have hfin : firstI (isId s) xs = -1 := firstI_none fun j hj => hall j hj (by omega)
      clear hall
      go_wp2_with fail
      go_ret
      exact ⟨rfl, hbw⟩
end Go.Proofs.Ythaekoeekpofpaa
