/- Where a node is put: IndexFunc with the closure of grown. -/
import Derived.Test.YthaekoeekpofpaaL
namespace Go.Proofs.Ythaekoeekpofpaa
open Go.RowKit
attribute [local go_sem] bs_size bs_getElem bs_list bs_append

set_option maxRecDepth 100000 in
set_option maxHeartbeats 1600000 in
theorem index_less (q : Nat) (y : Nd) (A : Option Addr) (n c : Nat) (xs : List Nd) (w : World) (hx : Nds w A n c xs) (hq : Blk w q 37 (nc y).toArray) :
    Calls Try.prog 42 #[.slice A n c, .func (.func 44) #[] #[.pointer (some ⟨q, 0, none⟩)]] w fun e w' => e = .returned (.int .i64 (firstI (fun z => lessS y.id z.id) xs)) ∧ Below w.heap.size w w' := by
  have hql := hq.lt
  have hn := hx.len
  have hmx := hx.max
  have hle := hx.le
  have HX := Lib.hid hx
  have HQ := Lib.hid hq
  clear hx hq
  go_enter Try.func42, Try.ntmps42
  go_wp2_with fail
  go_loopw [8] (fun i wr => ∃ k : Nat, k ≤ xs.length ∧ i = .int .i64 k ∧ Below w.heap.size w wr ∧ ∀ j (hj : j < xs.length), j < k → lessS y.id xs[j].id = false) (fun i _ => xs.length - (intOf i).toNat)
  case atStart => exact ⟨0, by omega, rfl, Below.refl _ _, fun j _ h => by omega⟩
  case round =>
    obtain ⟨k, hk, rfl, hb, hall⟩ := hrel
    rcases Nat.lt_or_ge k xs.length with hlt | hge
    · obtain ⟨b, off, rfl, hbl, c0, c1, c2, c3, c4, c5, c6, _⟩ := Nds.at_ (HX.out.below hb) hlt
      have hq' := HQ.out.below hb hql
      have HA := Lib.hid hall
      have hcl := clo_less q y xs[k] wr hq'
      obtain ⟨x, hx⟩ : ∃ x, xs[k] = x := ⟨_, rfl⟩
      rw [hx] at c0 c1 c2 c3 c4 c5 c6 hcl
      unfold nv at hcl
      have HCl := Lib.hid hcl
      have HX2 := Lib.hid hx
      have HB := Lib.hid hb
      have hki : (k : Int) < (n : Int) := by omega
      clear hall hx hb hq' hcl
      go_wp2_with fail
      refine HCl.out.mono ?_
      rintro e w2 ⟨rfl, hb2⟩
      have hb3 := HB.out.trans (hb2.mono HB.out.size)
      cases hc : lessS y.id x.id with
      | true =>
        go_wp2_with fail
        have hfin : firstI (fun z => lessS y.id z.id) xs = k := firstI_at hlt (by show lessS y.id xs[k].id = true; rw [HX2.out]; exact hc) HA.out
        go_ret
        exact ⟨by rw [hfin]; rfl, hb3⟩
      | false =>
        go_wp2_with fail
        exact ⟨⟨k + 1, by omega, by go_num, hb3, fun j hj hjk => by
          by_cases e : j = k
          · subst e; rw [HX2.out]; exact hc
          · exact HA.out j hj (by omega)⟩, by simp [intOf]; omega⟩
    · have hkn : ¬ (k : Int) < (n : Int) := by omega
      have hfin : firstI (fun z => lessS y.id z.id) xs = -1 := firstI_none fun j hj => hall j hj (by omega)
      clear hall
      go_wp2_with fail
      go_ret
      exact ⟨rfl, hb⟩

end Go.Proofs.Ythaekoeekpofpaa
