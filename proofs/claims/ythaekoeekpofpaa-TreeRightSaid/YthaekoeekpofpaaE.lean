/- has, slices.Index, slices.Contains on stamps. -/
import Derived.Test.YthaekoeekpofpaaD
namespace Go.Proofs.Ythaekoeekpofpaa
open Go.RowKit
attribute [local go_sem] bs_size bs_getElem bs_list bs_append

def SC (cs : List Value) (x : St) : Prop := cs = [.int .i64 x.1, .int .i64 x.2]
/-- a list of stamps -/
abbrev Sts (w : World) (A : Option Addr) (n c : Nat) (xs : List St) : Prop := Sl w 2 SC A n c xs
theorem Sts.at_ {w : World} {A : Option Addr} {n c k : Nat} {xs : List St} (h : Sts w A n c xs) (hk : k < xs.length) :
    ∃ b off, A = some ⟨b, off, none⟩ ∧ b < w.heap.size ∧ w.cell? ⟨b, off + k * 2, none⟩ = some (.int .i64 xs[k].1) ∧ w.cell? ⟨b, off + k * 2 + 1, none⟩ = some (.int .i64 xs[k].2) := by
  obtain ⟨b, off, cs, e, hlt, hl, rfl, hc⟩ := h.4 k hk
  exact ⟨b, off, e, hlt, by have := hc 0 _ rfl; simpa using this, hc 1 _ rfl⟩
def placeS (s : St) (xs : List St) : Int := match xs.findIdx? (fun x => decide (x = s)) with
  | some i => i
  | none => -1
theorem placeS_at {s : St} {xs : List St} {k : Nat} (hk : k < xs.length) (h : decide (xs[k] = s) = true) (hall : ∀ j (hj : j < xs.length), j < k → decide (xs[j] = s) = false) : placeS s xs = k := by
  have h1 : xs.findIdx? (fun x => decide (x = s)) = some k := by
    rw [List.findIdx?_eq_some_iff_getElem]
    exact ⟨hk, h, fun j hj => by rw [hall j (by omega) hj]; simp⟩
  unfold placeS; rw [h1]
theorem placeS_none {s : St} {xs : List St} (hall : ∀ j (hj : j < xs.length), decide (xs[j] = s) = false) : placeS s xs = -1 := by
  have h1 : xs.findIdx? (fun x => decide (x = s)) = none := by
    rw [List.findIdx?_eq_none_iff]
    intro x hx
    obtain ⟨j, hj, rfl⟩ := List.mem_iff_getElem.1 hx
    exact hall j hj
  unfold placeS; rw [h1]
theorem placeS_has (s : St) (xs : List St) : decide (placeS s xs ≥ 0) = decide (s ∈ xs) := by
  unfold placeS
  cases h : xs.findIdx? (fun x => decide (x = s)) with
  | none =>
    have := List.findIdx?_eq_none_iff.1 h
    have hn : s ∉ xs := fun hm => by have := this s hm; simp at this
    simp [hn]
  | some k =>
    obtain ⟨hk, h1, _⟩ := List.findIdx?_eq_some_iff_getElem.1 h
    have hm : s ∈ xs := by
      have : xs[k] = s := of_decide_eq_true h1
      rw [← this]; exact List.getElem_mem hk
    simp [hm]

set_option maxRecDepth 100000 in
set_option maxHeartbeats 1600000 in
theorem has_st (s : St) (A : Option Addr) (n c : Nat) (xs : List St) (w : World) (hx : Sts w A n c xs) :
    Calls Try.prog 39 #[.slice A n c, sv s] w fun e w' => e = .returned (.bool (decide (s ∈ xs))) ∧ Below w.heap.size w w' := by
  have hb1 : Below w.heap.size w (w.alloc (.cells #[.int .i64 s.1, .int .i64 s.2] 30)) := (Below.refl _ w).alloc (Nat.le_refl _) _
  have hB := Blk.new w 30 #[.int .i64 s.1, .int .i64 s.2]
  have hx1 := hx.below hb1
  have q0 := hB.cell 0
  have q1 := hB.cell 1
  simp only [List.getElem?_toArray, List.getElem?_cons_zero, List.getElem?_cons_succ] at q0 q1
  have hn := hx.len
  have hmx := hx.max
  have hle := hx.le
  obtain ⟨w1, hw1⟩ : ∃ w1, w1 = w.alloc (.cells #[.int .i64 s.1, .int .i64 s.2] 30) := ⟨_, rfl⟩
  rw [← hw1] at hB hb1 hx1 q0 q1
  have HW := Lib.hid hw1
  have HX := Lib.hid hx1
  have HB := Lib.hid hb1
  have hs := hb1.size
  obtain ⟨B, hBe⟩ : ∃ B, B = w.heap.size := ⟨_, rfl⟩
  have hB1 := cell_lt q0
  rw [← hBe] at q0 q1 hB1
  have HBe := Lib.hid hBe
  have HQ0 := Lib.hid q0
  have HQ1 := Lib.hid q1
  clear hw1 hx1 hb1 hB hx hBe q0 q1 hs
  unfold sv
  go_enter Try.func39, Try.ntmps39
  go_wp2_with fail
  rw [← HW.out, ← HBe.out]
  go_loopw [5] (fun i wr => ∃ k : Nat, k ≤ xs.length ∧ i = .int .i64 k ∧ Below w1.heap.size w1 wr ∧ ∀ j (hj : j < xs.length), j < k → decide (xs[j] = s) = false) (fun i _ => xs.length - (intOf i).toNat)
  case atStart => exact ⟨0, by omega, rfl, Below.refl _ _, fun j _ h => by omega⟩
  case round =>
    obtain ⟨k, hk, rfl, hb, hall⟩ := hrel
    have hbw := HB.out.trans (hb.mono HB.out.size)
    rcases Nat.lt_or_ge k xs.length with hlt | hge
    · obtain ⟨b, off, rfl, hbl, c0, c1⟩ := Sts.at_ (HX.out.below hb) hlt
      have q0 := cell_below hb hB1 HQ0.out
      have q1 := cell_below hb hB1 HQ1.out
      have HA := Lib.hid hall
      obtain ⟨x, hx⟩ : ∃ x, xs[k] = x := ⟨_, rfl⟩
      rw [hx] at c0 c1
      have he := run_eql_st x s
      have HX2 := Lib.hid hx
      have HB4 := Lib.hid hb
      have hki : (k : Int) < (n : Int) := by omega
      clear hall hx hb
      cases hc : decide (x = s) with
      | true =>
        go_wp2_with fail
        go_quiet (fail)
        have hb5 := Lib.hid (below_drewN hbw nq)
        go_wp2_with fail
        have hfin : decide (s ∈ xs) = true := decide_eq_true ((show xs[k] = s by rw [HX2.out]; exact of_decide_eq_true hc) ▸ List.getElem_mem hlt)
        go_ret
        exact ⟨by rw [hfin]; rfl, hb5.out⟩
      | false =>
        go_wp2_with fail
        go_quiet (fail)
        have hb5 := Lib.hid (below_drewN HB4.out nq)
        go_wp2_with fail
        exact ⟨⟨k + 1, by omega, by go_num, hb5.out, fun j hj hjk => by
          by_cases e : j = k
          · subst e; rw [HX2.out]; exact hc
          · exact HA.out j hj (by omega)⟩, by simp [intOf]; omega⟩
    · have hkn : ¬ (k : Int) < (n : Int) := by omega
      have hfin : decide (s ∈ xs) = false := decide_eq_false fun hm => by
        obtain ⟨j, hj, e⟩ := List.mem_iff_getElem.1 hm
        have := hall j hj (by omega)
        rw [e] at this; simp at this
      clear hall
      go_wp2_with fail
      go_ret
      exact ⟨rfl, hbw⟩
set_option maxRecDepth 100000 in
set_option maxHeartbeats 1600000 in
theorem index_st (s : St) (A : Option Addr) (n c : Nat) (xs : List St) (w : World) (hx : Sts w A n c xs) :
    Calls Try.prog 49 #[.slice A n c, sv s] w fun e w' => e = .returned (.int .i64 (placeS s xs)) ∧ Below w.heap.size w w' := by
  have hb1 : Below w.heap.size w (w.alloc (.cells #[.int .i64 s.1, .int .i64 s.2] 30)) := (Below.refl _ w).alloc (Nat.le_refl _) _
  have hB := Blk.new w 30 #[.int .i64 s.1, .int .i64 s.2]
  have hx1 := hx.below hb1
  have q0 := hB.cell 0
  have q1 := hB.cell 1
  simp only [List.getElem?_toArray, List.getElem?_cons_zero, List.getElem?_cons_succ] at q0 q1
  have hn := hx.len
  have hmx := hx.max
  have hle := hx.le
  obtain ⟨w1, hw1⟩ : ∃ w1, w1 = w.alloc (.cells #[.int .i64 s.1, .int .i64 s.2] 30) := ⟨_, rfl⟩
  rw [← hw1] at hB hb1 hx1 q0 q1
  have HW := Lib.hid hw1
  have HX := Lib.hid hx1
  have HB := Lib.hid hb1
  have hs := hb1.size
  obtain ⟨B, hBe⟩ : ∃ B, B = w.heap.size := ⟨_, rfl⟩
  have hB1 := cell_lt q0
  rw [← hBe] at q0 q1 hB1
  have HBe := Lib.hid hBe
  have HQ0 := Lib.hid q0
  have HQ1 := Lib.hid q1
  clear hw1 hx1 hb1 hB hx hBe q0 q1 hs
  unfold sv
  go_enter Try.func49, Try.ntmps49
  go_wp2_with fail
  rw [← HW.out, ← HBe.out]
  go_loopw [8] (fun i wr => ∃ k : Nat, k ≤ xs.length ∧ i = .int .i64 k ∧ Below w1.heap.size w1 wr ∧ ∀ j (hj : j < xs.length), j < k → decide (xs[j] = s) = false) (fun i _ => xs.length - (intOf i).toNat)
  case atStart => exact ⟨0, by omega, rfl, Below.refl _ _, fun j _ h => by omega⟩
  case round =>
    obtain ⟨k, hk, rfl, hb, hall⟩ := hrel
    have hbw := HB.out.trans (hb.mono HB.out.size)
    rcases Nat.lt_or_ge k xs.length with hlt | hge
    · obtain ⟨b, off, rfl, hbl, c0, c1⟩ := Sts.at_ (HX.out.below hb) hlt
      have q0 := cell_below hb hB1 HQ0.out
      have q1 := cell_below hb hB1 HQ1.out
      have HA := Lib.hid hall
      obtain ⟨x, hx⟩ : ∃ x, xs[k] = x := ⟨_, rfl⟩
      rw [hx] at c0 c1
      have he := run_eql_st s x
      have hsx : decide (s = x) = decide (x = s) := decide_eq_decide.2 ⟨Eq.symm, Eq.symm⟩
      rw [hsx] at he
      have HX2 := Lib.hid hx
      have HB4 := Lib.hid hb
      have hki : (k : Int) < (n : Int) := by omega
      clear hall hx hb
      cases hc : decide (x = s) with
      | true =>
        go_wp2_with fail
        go_quiet (fail)
        have hb5 := Lib.hid (below_drewN hbw nq)
        go_wp2_with fail
        have hfin : placeS s xs = k := placeS_at hlt (by rw [HX2.out]; exact hc) HA.out
        go_ret
        exact ⟨by rw [hfin]; rfl, hb5.out⟩
      | false =>
        go_wp2_with fail
        go_quiet (fail)
        have hb5 := Lib.hid (below_drewN HB4.out nq)
        go_wp2_with fail
        exact ⟨⟨k + 1, by omega, by go_num, hb5.out, fun j hj hjk => by
          by_cases e : j = k
          · subst e; rw [HX2.out]; exact hc
          · exact HA.out j hj (by omega)⟩, by simp [intOf]; omega⟩
    · have hkn : ¬ (k : Int) < (n : Int) := by omega
      have hfin : placeS s xs = -1 := placeS_none fun j hj => hall j hj (by omega)
      clear hall
      go_wp2_with fail
      go_ret
      exact ⟨rfl, hbw⟩
set_option maxRecDepth 100000 in
theorem contains_st (s : St) (A : Option Addr) (n c : Nat) (xs : List St) (w : World) (hx : Sts w A n c xs) :
    Calls Try.prog 46 #[.slice A n c, sv s] w fun e w' => e = .returned (.bool (decide (s ∈ xs))) ∧ Below w.heap.size w w' := by
  have hb1 : Below w.heap.size w (w.alloc (.cells #[.int .i64 s.1, .int .i64 s.2] 30)) := (Below.refl _ w).alloc (Nat.le_refl _) _
  have HI := Lib.hid (index_st s A n c xs _ (hx.below hb1))
  have HB := Lib.hid hb1
  rw [← placeS_has]
  clear hb1 hx
  unfold sv at *
  go_enter Try.func46, Try.ntmps46
  go_wp2_with fail
  refine HI.out.mono ?_
  rintro e w2 ⟨rfl, hb2⟩
  have hb3 := HB.out.trans (hb2.mono HB.out.size)
  go_wp2_with fail
  go_ret
  exact ⟨rfl, hb3⟩

end Go.Proofs.Ythaekoeekpofpaa
