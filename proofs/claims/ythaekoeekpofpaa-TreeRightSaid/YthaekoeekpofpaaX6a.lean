/- own: are all nodes' stamps right ones? -/
import Derived.Test.YthaekoeekpofpaaX5
namespace Go.Proofs.Ythaekoeekpofpaa
open Go.RowKit
attribute [local go_sem] bs_size bs_getElem bs_list bs_append

def rightS (s : St) : Bool := !(decide (s.1 < 1) || decide (s.1 > 1099511627776) || decide (s.2 < 0) || decide (s.2 ≥ 15))

set_option maxRecDepth 100000 in
set_option maxHeartbeats 1600000 in
theorem right_st (s : St) (w : World) : Calls Try.prog 40 #[.agg #[.int .i64 s.1, .int .i64 s.2]] w fun e w' => e = .returned (.int .i64 (if rightS s then 0 else 20)) ∧ Below w.heap.size w w' := by
  have HB := Lib.hid ((Below.refl w.heap.size w).alloc (Nat.le_refl _) (.cells #[.int .i64 s.1, .int .i64 s.2] 30))
  unfold rightS
  cases h1 : decide (s.1 < 1) <;> cases h2 : decide (s.1 > 1099511627776) <;> cases h3 : decide (s.2 < 0) <;> cases h4 : decide (s.2 ≥ 15)
  all_goals (
    go_enter Try.func40, Try.ntmps40
    go_wp2_with fail
    go_ret
    exact ⟨rfl, HB.out⟩)

def ownB (l : List TOp) : Bool := l.all fun x => rightS x.node

set_option maxRecDepth 100000 in
set_option maxHeartbeats 1600000 in
theorem own_is (A : Option Addr) (n c : Nat) (xs : List TOp) (w : World) (hx : Ops w A n c xs) :
    Calls Try.prog 21 #[.slice A n c] w fun e w' => e = .returned (.bool (ownB xs)) ∧ Below w.heap.size w w' := by
  have hn := hx.len
  have hmx := hx.max
  have hle := hx.le
  have HX := Lib.hid hx
  obtain ⟨r, hr⟩ : ∃ r, r = ownB xs := ⟨_, rfl⟩
  rw [← hr]
  have HR := Lib.hid hr
  clear hx hr
  go_enter Try.func21, Try.ntmps21
  go_wp2_with fail
  go_loopw [3] (fun i wr => ∃ k : Nat, k ≤ n ∧ i = .int .i64 k ∧ Below w.heap.size w wr ∧ RowKit.Hid (∀ j (hj : j < xs.length), j < k → rightS xs[j].node = true)) (fun i _ => n - (intOf i).toNat)
  case atStart => exact ⟨0, by omega, rfl, Below.refl _ _, Lib.hid (fun j hj h => by omega)⟩
  case round =>
    obtain ⟨k, hk, rfl, hb, hall⟩ := hrel
    rcases Nat.lt_or_ge k n with hlt | hge
    · have hki : (k : Int) < (n : Int) := by omega
      have hkl : k < xs.length := by omega
      obtain ⟨b, off, rfl, hbl, c0, c1, c2, c3, c4, c5, c6, c7, c8, c9, c10, m1, m2⟩ := Ops.at_ (HX.out.below hb) hkl
      have hnext : rightS xs[k].node = true → RowKit.Hid (∀ j (hj : j < xs.length), j < k + 1 → rightS xs[j].node = true) := fun h => Lib.hid (fun j hj h1 => by
        rcases Nat.lt_or_ge j k with h2 | h2
        · exact hall.out j hj h2
        · obtain rfl : j = k := by omega
          exact h)
      have hstop : rightS xs[k].node = false → r = false := fun h => by
        rw [HR.out]
        unfold ownB
        rw [List.all_eq_false]
        exact ⟨xs[k], List.getElem_mem hkl, by rw [h]; decide⟩
      have HNx := Lib.hid hnext
      have HSt := Lib.hid hstop
      clear hnext hstop
      have hx1 : ∃ x, x = xs[k] := ⟨_, rfl⟩
      obtain ⟨x, hx1⟩ := hx1
      rw [← hx1] at c4 c5 HNx HSt
      clear hx1 m1 m2 c0 c1 c2 c3 c6 c7 c8 c9 c10
      have HB := Lib.hid hb
      clear hb
      have HRt := Lib.hid (right_st x.node wr)
      cases hrs : rightS x.node with
      | true =>
        rw [hrs] at HRt
        have HN := Lib.hid (HNx.out hrs)
        clear hrs HNx HSt
        go_wp2_with fail
        refine HRt.out.mono ?_
        rintro e w2 ⟨rfl, hb2⟩
        have HB2 := Lib.hid (HB.out.trans (hb2.mono HB.out.size))
        clear hb2
        go_wp2_with fail
        exact ⟨⟨k + 1, by omega, by go_num, HB2.out, HN.out⟩, by simp [intOf]; omega⟩
      | false =>
        rw [hrs] at HRt
        have HS := Lib.hid (HSt.out hrs)
        clear hrs HNx HSt
        go_wp2_with fail
        refine HRt.out.mono ?_
        rintro e w2 ⟨rfl, hb2⟩
        have HB2 := Lib.hid (HB.out.trans (hb2.mono HB.out.size))
        clear hb2
        go_wp2_with fail
        go_ret
        exact ⟨by rw [HS.out]; rfl, HB2.out⟩
    · have hkn : ¬ (k : Int) < (n : Int) := by omega
      have hfin : RowKit.Hid (r = true) := Lib.hid (by
        rw [HR.out]
        unfold ownB
        rw [List.all_eq_true]
        intro y hy
        obtain ⟨j, hj, rfl⟩ := List.mem_iff_getElem.1 hy
        exact hall.out j hj (by omega))
      have HB := Lib.hid hb
      clear hb hall
      go_wp2_with fail
      go_ret
      exact ⟨by rw [hfin.out]; rfl, HB.out⟩
end Go.Proofs.Ythaekoeekpofpaa
