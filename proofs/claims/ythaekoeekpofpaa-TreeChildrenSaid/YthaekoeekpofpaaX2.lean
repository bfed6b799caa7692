/- The walk of TreeChildren. -/
import Derived.Test.YthaekoeekpofpaaX1
namespace Go.Proofs.Ythaekoeekpofpaa
open Go.RowKit
attribute [local go_sem] bs_size bs_getElem bs_list bs_append

theorem kidsN_le (s : St) (xs : List Nd) : (kidsN s xs).length ≤ xs.length := by
  unfold kidsN
  exact List.length_filter_le _ _

theorem after_some {A : Option Addr} {n c : Nat} {xs : List Nd} {W : World} {x : After W} {r : Bool} (hx : Nds W A n c xs) (hr : someB xs = r) :
    Calls Try.prog 16 #[.slice A n c] x.wd fun e w' => e = .returned (.bool r) ∧ ∃ y : After W, w' = y.wd := after_call (by rw [← hr]; exact some_is A n c xs x.wd (hx.below x.below))
theorem after_awake {W : World} (x : After W) : Calls Try.prog 15 #[] x.wd fun e w' => e = .returned (.bool true) ∧ ∃ y : After W, w' = y.wd := after_call (awake_any x.wd)

set_option maxRecDepth 100000 in
set_option maxHeartbeats 3200000 in
theorem law_children (A : Option Addr) (n c : Nat) (xs : List Nd) (s : St) (w : World) (hx : Nds w A n c xs) :
    Calls Try.prog 10 #[.slice A n c, sv s] w fun e w' => e = .returned (.bool true) ∧ Below w.heap.size w w' := by
  have hA := AtS.start w s A n c xs hx
  have hsh := hx.short
  have hshk : Short (kidsN s xs) := fun y hy => hsh y (List.mem_filter.1 hy).1
  obtain ⟨w1, hw1⟩ : ∃ w1, w1 = w.alloc (.cells #[.int .i64 s.1, .int .i64 s.2] 30) := ⟨_, rfl⟩
  obtain ⟨q, hq⟩ : ∃ q, q = w.heap.size := ⟨_, rfl⟩
  have hA : AtS w.heap.size q w w1 s A n c xs := by rw [hq, hw1]; exact hA
  have HW := Lib.hid hw1
  have HQ := Lib.hid hq
  have HA := Lib.hid hA
  have HSh := Lib.hid hshk
  clear hw1 hq hA hx hsh hshk
  unfold sv
  have HK := Lib.hid (fun (w' : World) (h : Nds w' A n c xs) (hm : n ≤ 1000000) => kids_any s A n c xs w' h hm)
  have HR := Lib.hid (fun (w' : World) (h : Nds w' A n c xs) (hm : n ≤ 1000000) => rkids_any s A n c xs w' h hm)
  unfold sv at HK HR
  obtain ⟨ys, hy⟩ : ∃ ys, ys = kidsN s xs := ⟨_, rfl⟩
  rw [← hy] at HK HR HSh
  clear hy
  go_enter Try.func10, Try.ntmps10
  go_upto_region 1 with (fail)
  rw [← HW.out, ← HQ.out]
  obtain ⟨q0, q1⟩ := HA.out.cells
  cases hsb : someB xs with
  | false =>
    have HS := Lib.hid hsb
    clear hsb q1 q0 HK HR
    refine wp_region_after (by kernel_rfl) (by kernel_rfl) ?_
    repeat (go_big_quiet_step ((first | (go_at_call 16; exact after_some HA.out.nds HS.out) | (go_at_call 15; exact after_awake _))))
    refine wpQuiet_nil ?_
    rintro _ ⟨x, rfl⟩
    have HB := Lib.hid (HA.out.below.trans (x.below.mono HA.out.size))
    go_wp2_with fail
    go_ret
    exact ⟨rfl, HB.out⟩
  | true =>
    have hm : RowKit.Hid (n ≤ 1000000) := Lib.hid (Nat.le_trans (by rw [← HA.out.nds.len]; exact someB_le hsb) (by decide : 150 ≤ 1000000))
    have HS := Lib.hid hsb
    clear hsb
    go_region_held3 (fun w' => w'.cell? ⟨q, 0, none⟩ = some (.int .i64 s.1) ∧ w'.cell? ⟨q, 1, none⟩ = some (.int .i64 s.2)) (first | exact ⟨q0, q1⟩ | exact HA6.out.cells | exact HA5.out.cells | exact HA4.out.cells | exact HA3.out.cells | exact HA2.out.cells)
      (first
        | (go_at_call 16; refine (some_is A n c xs _ HA.out.drew.nds).mono ?_; rw [HS.out]; rintro e w2 ⟨rfl, hb2⟩; have HA2 := Lib.hid (HA.out.drew.after hb2))
        | (go_at_call 26; refine (HK.out _ HA2.out.nds hm.out).mono ?_; rintro e w3 ⟨v3, rfl, hO3, hb3⟩; obtain ⟨A3, c3, rfl, hN3⟩ := hO3.nds HSh.out; have HN3 := Lib.hid hN3; have HA3 := Lib.hid (HA2.out.after hb3))
        | (go_at_call 27; refine (HR.out _ HA3.out.nds hm.out).mono ?_; rintro e w4 ⟨v4, rfl, hO4, hb4⟩; obtain ⟨A4, c4, rfl, hN4⟩ := hO4.nds HSh.out; have HN4 := Lib.hid hN4; have HA4 := Lib.hid (HA3.out.after hb4); have HN3b := Lib.hid (HN3.out.below hb4))
        | (go_at_call 12; refine (same_any A3 A4 _ c3 c4 ys _ HN3b.out HN4.out).mono ?_; rintro e w5 ⟨rfl, hb5⟩; have HA5 := Lib.hid (HA4.out.after hb5))
        | (go_at_call 15; refine (awake_any _).mono ?_; rintro e w6 ⟨rfl, hb6⟩; have HA6 := Lib.hid (HA5.out.after hb6)))
    all_goals go_wp2_with fail
    all_goals go_ret
    all_goals exact ⟨rfl, HA6.out.below⟩
end Go.Proofs.Ythaekoeekpofpaa
