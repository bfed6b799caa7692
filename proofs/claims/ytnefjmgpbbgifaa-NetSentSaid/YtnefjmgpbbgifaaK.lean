/- The walks of the closure of Cut, slices.IndexFunc, slices.DeleteFunc. -/
import Derived.Test.YtnefjmgpbbgifaaG
namespace Go.Proofs.Ytnefjmgpbbgifaa
open Go.RowKit
attribute [local go_sem] bs_size bs_getElem bs_list bs_append

/-- what Cut loses -/
def cutB (who : Int) (x : Pk) : Bool := decide (x.f = who ∨ x.t = who)

set_option maxRecDepth 100000 in
set_option maxHeartbeats 1600000 in
theorem clo_any (q : Nat) (who : Int) (x : Pk) (w : World) (hq : w.cell? ⟨q, 0, none⟩ = some (.int .i64 who)) :
    Calls Try.prog 29 #[pv x, .pointer (some ⟨q, 0, none⟩)] w fun e w' => e = .returned (.bool (cutB who x)) ∧ Below w.heap.size w w' := by
  have hl := cell_lt hq
  have h1 : cutB who x = ((x.f == who) || (x.t == who)) := by unfold cutB; rw [Bool.eq_iff_iff]; simp
  rw [h1]
  clear h1
  obtain ⟨w1, hw1⟩ : ∃ w1, w1 = w.alloc (.cells #[.int .i64 x.f, .int .i64 x.t, .string (bs x.d)] 30) := ⟨_, rfl⟩
  have hB := Blk.new w 30 #[.int .i64 x.f, .int .i64 x.t, .string (bs x.d)]
  have hb : Below w.heap.size w (w.alloc (.cells #[.int .i64 x.f, .int .i64 x.t, .string (bs x.d)] 30)) := (Below.refl _ w).alloc (Nat.le_refl _) _
  have hc := cell?_alloc_old hq (.cells #[.int .i64 x.f, .int .i64 x.t, .string (bs x.d)] 30)
  rw [← hw1] at hB hb hc
  obtain ⟨e0, e1, e2⟩ := blk3 hB
  have HW := Lib.hid hw1
  have HB := Lib.hid hb
  clear hw1 hb hB
  unfold pv
  cases hA : (x.f == who) with
  | true =>
    go_enter Try.func29, Try.ntmps29
    go_wp2_with fail
    rw [← HW.out]
    exact bodyPost_ret (v := .bool true) (by simp [results, Try.results29, go_sem]) rfl ⟨by simp, HB.out⟩
  | false =>
    go_enter Try.func29, Try.ntmps29
    go_wp2_with fail
    rw [← HW.out]
    go_ret
    exact ⟨by simp, HB.out⟩

theorem row_at {w : World} {u : Value} {ys : List Pk} (h : w.ownsRow 0 30 3 u ys.length (pcs ys)) {k : Nat} (hk : k < ys.length) : ∃ g cap, u = .slice (some ⟨g, 0, none⟩) ys.length cap ∧ g < w.heap.size ∧ ys.length ≤ cap ∧ cap ≤ 9223372036854775807 ∧
    w.cell? ⟨g, k * 3, none⟩ = some (.int .i64 ys[k].f) ∧ w.cell? ⟨g, k * 3 + 1, none⟩ = some (.int .i64 ys[k].t) ∧ w.cell? ⟨g, k * 3 + 2, none⟩ = some (.string (bs ys[k].d)) := by
  rcases h.2 with ⟨_, e2⟩ | ⟨g, cap, cur, rfl, _, hh, hle, hmx, hsz, htk⟩
  · omega
  · have hB : Blk w g 30 cur := hh
    have key : ∀ j, j < 3 → w.cell? ⟨g, k * 3 + j, none⟩ = (pc ys[k])[j]? := fun j hj => by
      rw [hB.cell, ← pcs_at ys k j hk hj, ← htk, List.getElem?_take_of_lt (by omega), Array.getElem?_toList]
    exact ⟨g, cap, rfl, hB.lt, hle, hmx, key 0 (by omega), key 1 (by omega), key 2 (by omega)⟩
theorem row_below {w w' : World} {u : Value} {n : Nat} {xs : List Value} (h : w.ownsRow 0 30 3 u n xs) (hb : Below w.heap.size w w') : w'.ownsRow 0 30 3 u n xs := own_kp h (kp_below (S := fun _ => False) hb) (fun _ _ h => h)
theorem row_slice {w : World} {u : Value} {ys : List Pk} (h : w.ownsRow 0 30 3 u ys.length (pcs ys)) : ∃ A c, u = .slice A ys.length c := by
  rcases h.2 with ⟨e, e2⟩ | ⟨g, cap, cur, e, _⟩
  · exact ⟨none, 0, by rw [e, e2]⟩
  · exact ⟨_, cap, e⟩

/-- the first place, -1 where there is none -/
def firstC (who : Int) (ps : List Pk) : Int := match ps.findIdx? (cutB who) with
  | some i => i
  | none => -1

set_option maxRecDepth 100000 in
set_option maxHeartbeats 1600000 in
theorem index_any (q : Nat) (who : Int) (v : Value) (ps : List Pk) (w : World) (hrow : w.ownsRow 0 30 3 v ps.length (pcs ps)) (hq : w.cell? ⟨q, 0, none⟩ = some (.int .i64 who)) (hm : ps.length ≤ 1000000) :
    Calls Try.prog 32 #[v, .func (.func 29) #[] #[.pointer (some ⟨q, 0, none⟩)]] w fun e w' => e = .returned (.int .i64 (firstC who ps)) ∧ Below w.heap.size w w' := by
  have hql := cell_lt hq
  obtain ⟨A, c, rfl⟩ := row_slice hrow
  have HRow := Lib.hid hrow
  have HQ := Lib.hid hq
  clear hrow hq
  go_enter Try.func32, Try.ntmps32
  go_wp2_with fail
  go_loopw [8] (fun i wr => ∃ k : Nat, k ≤ ps.length ∧ i = .int .i64 k ∧ Below w.heap.size w wr ∧ ∀ j (hj : j < ps.length), j < k → cutB who ps[j] = false) (fun i _ => ps.length - (intOf i).toNat)
  case atStart => exact ⟨0, by omega, rfl, Below.refl _ _, fun j _ h => by omega⟩
  case round =>
    obtain ⟨k, hk, rfl, hb, hall⟩ := hrel
    rcases Nat.lt_or_ge k ps.length with hlt | hge
    · obtain ⟨g, cap, hv, hgl, hcl, hcm, c0, c1, c2⟩ := row_at (row_below HRow.out hb) hlt
      cases hv
      have hq' := cell_below hb hql HQ.out
      have HA := Lib.hid hall
      have HCl := Lib.hid (clo_any q who ps[k] wr hq')
      obtain ⟨x, hx⟩ : ∃ x, ps[k] = x := ⟨_, rfl⟩
      rw [hx] at c0 c1 c2 HCl
      have HX := Lib.hid hx
      have HB := Lib.hid hb
      clear hall hx hb hq'
      go_wp2_with fail
      refine HCl.out.mono ?_
      rintro e w2 ⟨rfl, hb2⟩
      have hb3 := HB.out.trans (hb2.mono HB.out.size)
      cases hc : cutB who x with
      | true =>
        go_wp2_with fail
        have hfin : firstC who ps = k := by
          have h1 : ps.findIdx? (cutB who) = some k := by
            rw [List.findIdx?_eq_some_iff_getElem]
            exact ⟨hlt, by rw [HX.out]; exact hc, fun j hj => by rw [HA.out j (by omega) hj]; simp⟩
          unfold firstC; rw [h1]
        go_ret
        exact ⟨by rw [hfin]; rfl, hb3⟩
      | false =>
        go_wp2_with fail
        exact ⟨⟨k + 1, by omega, by go_num, hb3, fun j hj hjk => by
          by_cases e : j = k
          · subst e; rw [HX.out]; exact hc
          · exact HA.out j hj (by omega)⟩, by simp [intOf]; omega⟩
    · obtain rfl : k = ps.length := by omega
      have hfin : firstC who ps = -1 := by
        have h1 : ps.findIdx? (cutB who) = none := by
          rw [List.findIdx?_eq_none_iff]
          intro x hx
          obtain ⟨j, hj, rfl⟩ := List.mem_iff_getElem.1 hx
          exact hall j hj hj
        unfold firstC; rw [h1]
      go_wp2_with fail
      go_ret
      exact ⟨by rw [hfin]; rfl, hb⟩
end Go.Proofs.Ytnefjmgpbbgifaa
