/- The order of two ranges. -/
import Derived.Test.YtkkmleglaljacaaA
import Derived.Shelf.SlSortCmp.QuietGrown
import Derived.Test.YtkkmleglaljacaaQTail
namespace Go.Proofs.Ytkkmleglaljacaa
open Go.RowKit Go.Sort

def cmpI (a b : Int) : Int := if a < b then -1 else if b < a then 1 else 0
def cmpR (x y : Rg) : Int := if cmpI x.w y.w ≠ 0 then cmpI x.w y.w else cmpI x.f y.f

set_option maxHeartbeats 1600000 in
theorem nan_any (a : Int) (w : World) : Calls Try.prog 42 #[.int .i64 a] w fun e w' => e = .returned (.bool false) ∧ w = w' := by
  have h : (a != a) = false := by simp
  go_enter Try.func42, Try.ntmps42
  go_wp2_with fail
  go_ret
  exact ⟨rfl, rfl⟩
set_option maxHeartbeats 1600000 in
theorem cmp_any (a b : Int) (w : World) : Calls Try.prog 37 #[.int .i64 a, .int .i64 b] w fun e w' => e = .returned (.int .i64 (cmpI a b)) ∧ w = w' := by
  unfold cmpI
  by_cases h1 : a < b
  · have d1 : decide (a < b) = true := decide_eq_true h1
    rw [if_pos h1]
    go_enter Try.func37, Try.ntmps37
    go_wp2_with (go_at_call 42; refine (nan_any _ _).mono ?_; rintro e w' ⟨rfl, rfl⟩)
    go_ret
    exact ⟨rfl, rfl⟩
  · have d1 : decide (a < b) = false := decide_eq_false h1
    rw [if_neg h1]
    by_cases h2 : b < a
    · have d2 : decide (a > b) = true := decide_eq_true h2
      rw [if_pos h2]
      go_enter Try.func37, Try.ntmps37
      go_wp2_with (go_at_call 42; refine (nan_any _ _).mono ?_; rintro e w' ⟨rfl, rfl⟩)
      go_ret
      exact ⟨rfl, rfl⟩
    · have d2 : decide (a > b) = false := decide_eq_false h2
      rw [if_neg h2]
      go_enter Try.func37, Try.ntmps37
      go_wp2_with (go_at_call 42; refine (nan_any _ _).mono ?_; rintro e w' ⟨rfl, rfl⟩)
      go_ret
      exact ⟨rfl, rfl⟩
set_option maxHeartbeats 1600000 in
theorem or_any (a b : Int) (g c : Nat) (w : World) (h0 : w.cell? ⟨g, 0, none⟩ = some (.int .i64 a)) (h1 : w.cell? ⟨g, 1, none⟩ = some (.int .i64 b)) :
    Calls Try.prog 36 #[.slice (some ⟨g, 0, none⟩) 2 c] w fun e w' => e = .returned (.int .i64 (if a ≠ 0 then a else b)) ∧ w = w' := by
  obtain ⟨r, hr⟩ : ∃ r : Int, r = if a ≠ 0 then a else b := ⟨_, rfl⟩
  rw [← hr]
  have HR := Lib.hid hr
  clear hr
  go_enter Try.func36, Try.ntmps36
  go_wp2_with fail
  go_loopw [8] (fun i wr => ∃ k : Nat, k ≤ 2 ∧ i = .int .i64 k ∧ wr = w ∧ (1 ≤ k → a = 0) ∧ (2 ≤ k → b = 0)) (fun i _ => 2 - (intOf i).toNat)
  case atStart => exact ⟨0, by omega, rfl, rfl, fun h => by omega, fun h => by omega⟩
  case round =>
    obtain ⟨k, hk, rfl, rfl, ha, hb⟩ := hrel
    match k, hk, ha, hb with
    | 0, _, _, _ =>
      by_cases c0 : a = 0
      · subst c0
        go_wp2_with fail
        exact ⟨⟨1, by omega, by go_num, by simp⟩, by simp [intOf]⟩
      · have d : (a != 0) = true := by simp [c0]
        have hr := HR.out
        rw [if_pos c0] at hr
        subst hr
        go_wp2_with fail
        go_ret
        exact ⟨rfl, rfl⟩
    | 1, _, ha, _ =>
      obtain rfl := ha (by omega)
      have hr := HR.out
      rw [if_neg (by simp)] at hr
      by_cases c0 : b = 0
      · subst c0
        go_wp2_with fail
        exact ⟨⟨2, by omega, by go_num, by simp⟩, by simp [intOf]⟩
      · have d : (b != 0) = true := by simp [c0]
        subst hr
        go_wp2_with fail
        go_ret
        exact ⟨rfl, rfl⟩
    | 2, _, ha, hb =>
      obtain rfl := ha (by omega)
      obtain rfl := hb (by omega)
      have hr : r = 0 := by rw [HR.out]; simp
      subst hr
      go_wp2_with fail
      go_ret
      exact ⟨rfl, rfl⟩
    | k + 3, hk, _, _ => omega

theorem grown_cell {W : World} (p : GrownBy) {g o : Nat} {v : Value} (h : W.cell? ⟨g, o, none⟩ = some v) : (grow (W.drewN p.n) p.os).cell? ⟨g, o, none⟩ = some v := cell_grown (cell_lt h) h _ _
theorem grown_same {P : Program} {f : FuncId} {args : Array Value} {W : World} {p : GrownBy} {v : Value} (h : Calls P f args (grow (W.drewN p.n) p.os) fun e w' => e = .returned v ∧ grow (W.drewN p.n) p.os = w') :
    Calls P f args (grow (W.drewN p.n) p.os) fun e w'' => e = .returned v ∧ ∃ p : GrownBy, w'' = grow (W.drewN p.n) p.os :=
  h.mono fun _ _ ⟨he, hb⟩ => ⟨he, p, hb.symm⟩

set_option maxRecDepth 100000 in
set_option maxHeartbeats 400000 in
theorem order_any (x y : Rg) (W : World) : Calls Try.prog 35 #[rv x, rv y] W fun e w' => e = .returned (.int .i64 (cmpR x y)) ∧ ∃ q os', w' = grow (W.drewN q) os' := by
  unfold rv cmpR
  obtain ⟨r, hr⟩ : ∃ r : Int, r = if cmpI x.w y.w ≠ 0 then cmpI x.w y.w else cmpI x.f y.f := ⟨_, rfl⟩
  rw [← hr]
  have H36 := Lib.hid (fun g c W' => or_any (cmpI x.w y.w) (cmpI x.f y.f) g c W')
  rw [← hr] at H36
  clear hr
  obtain ⟨W2, hW2⟩ : ∃ W2, W2 = (W.alloc (.cells #[.int .i64 x.w, .int .i64 x.f, .int .i64 x.t] 33)).alloc (.cells #[.int .i64 y.w, .int .i64 y.f, .int .i64 y.t] 33) := ⟨_, rfl⟩
  have c0 : W2.cell? ⟨W.heap.size, 0, none⟩ = some (.int .i64 x.w) := by rw [hW2]; simp [go_sem]
  have c1 : W2.cell? ⟨W.heap.size, 1, none⟩ = some (.int .i64 x.f) := by rw [hW2]; simp [go_sem]
  have c2 : W2.cell? ⟨W.heap.size + 1, 0, none⟩ = some (.int .i64 y.w) := by rw [hW2]; simp [go_sem]
  have c3 : W2.cell? ⟨W.heap.size + 1, 1, none⟩ = some (.int .i64 y.f) := by rw [hW2]; simp [go_sem]
  have hG : ∃ q os', W2 = grow (W.drewN q) os' := ⟨0, _, by rw [hW2, alloc_eq_grow, alloc_eq_grow, grow_grow]; rfl⟩
  have HG := Lib.hid hG
  have HW := Lib.hid hW2
  clear hG hW2
  have k0 := fun p => grown_cell p c0
  have k1 := fun p => grown_cell p c1
  have k2 := fun p => grown_cell p c2
  have k3 := fun p => grown_cell p c3
  go_enter Try.func35, Try.ntmps35
  go_wp2_with fail
  rw [← HW.out]
  clear c0 c1 c2 c3
  refine wp_region_quiet_tail (C := fun w' => ∃ p : GrownBy, w' = grow (W2.drewN p.n) p.os) 10 (by kernel_rfl) (by kernel_rfl) ⟨⟨1, #[]⟩, by rw [grow_empty]; rfl⟩ ?_
  simp only [List.take_succ_cons, List.take_zero, List.drop_succ_cons, List.drop_zero]
  repeat (go_big_quiet_step ((go_at_call 37; exact grown_same (cmp_any _ _ _))))
  refine wpQuiet_nil ?_
  rintro _ ⟨p, rfl⟩
  obtain ⟨W3, hW3⟩ : ∃ W3, W3 = grow (W2.drewN p.n) p.os := ⟨_, rfl⟩
  rw [← hW3]
  have hG3 : ∃ q os', W3 = grow (W.drewN q) os' := by
    obtain ⟨q, os, e⟩ := HG.out
    refine ⟨q + p.n, os ++ p.os, ?_⟩
    rw [hW3, e]
    show grow (grow ((W.drewN q).drewN p.n) os) p.os = _
    rw [grow_grow, World.drewN_drewN]
  have HG3 := Lib.hid hG3
  clear hG3 hW3 k0 k1 k2 k3
  go_wp2_with (go_at_call 36; refine (H36.out _ _ _ (by simp [go_sem]) (by simp [go_sem])).mono ?_; rintro e w' ⟨rfl, rfl⟩)
  go_ret
  obtain ⟨q, os, e⟩ := HG3.out
  exact ⟨rfl, q, _, by rw [alloc_eq_grow, e, grow_grow]⟩
end Go.Proofs.Ytkkmleglaljacaa
