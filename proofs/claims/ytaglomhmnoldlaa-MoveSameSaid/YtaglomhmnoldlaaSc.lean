/- The comparison of a record's stamp with another one. -/
import Derived.Test.YtaglomhmnoldlaaSu
namespace Go.Proofs.Ytaglomhmnoldlaa
open Go.RowKit
attribute [local go_sem] bs_size bs_getElem bs_list bs_append

def cmpI (a b : Int) : Int := if a < b then -1 else if b < a then 1 else 0
set_option maxHeartbeats 1600000 in
theorem nan_any (a : Int) (w : World) : Calls Try.prog 37 #[.int .i64 a] w fun e w' => e = .returned (.bool false) ∧ w = w' := by
  have h : (a != a) = false := by simp
  go_enter Try.func37, Try.ntmps37
  go_wp2_with fail
  go_ret
  exact ⟨rfl, rfl⟩
set_option maxHeartbeats 1600000 in
theorem cmp_any (a b : Int) (w : World) : Calls Try.prog 26 #[.int .i64 a, .int .i64 b] w fun e w' => e = .returned (.int .i64 (cmpI a b)) ∧ w = w' := by
  unfold cmpI
  by_cases h1 : a < b
  · have d1 : decide (a < b) = true := decide_eq_true h1
    rw [if_pos h1]
    go_enter Try.func26, Try.ntmps26
    go_wp2_with (go_at_call 37; refine (nan_any _ _).mono ?_; rintro e w' ⟨rfl, rfl⟩)
    go_ret
    exact ⟨rfl, rfl⟩
  · have d1 : decide (a < b) = false := decide_eq_false h1
    rw [if_neg h1]
    by_cases h2 : b < a
    · have d2 : decide (a > b) = true := decide_eq_true h2
      rw [if_pos h2]
      go_enter Try.func26, Try.ntmps26
      go_wp2_with (go_at_call 37; refine (nan_any _ _).mono ?_; rintro e w' ⟨rfl, rfl⟩)
      go_ret
      exact ⟨rfl, rfl⟩
    · have d2 : decide (a > b) = false := decide_eq_false h2
      rw [if_neg h2]
      go_enter Try.func26, Try.ntmps26
      go_wp2_with (go_at_call 37; refine (nan_any _ _).mono ?_; rintro e w' ⟨rfl, rfl⟩)
      go_ret
      exact ⟨rfl, rfl⟩
set_option maxHeartbeats 1600000 in
theorem or_any (a b : Int) (g c : Nat) (w : World) (h0 : w.cell? ⟨g, 0, none⟩ = some (.int .i64 a)) (h1 : w.cell? ⟨g, 1, none⟩ = some (.int .i64 b)) :
    Calls Try.prog 25 #[.slice (some ⟨g, 0, none⟩) 2 c] w fun e w' => e = .returned (.int .i64 (if a ≠ 0 then a else b)) ∧ w = w' := by
  obtain ⟨r, hr⟩ : ∃ r : Int, r = if a ≠ 0 then a else b := ⟨_, rfl⟩
  rw [← hr]
  have HR := Lib.hid hr
  clear hr
  go_enter Try.func25, Try.ntmps25
  go_wp2_with fail
  go_loopw [8] (fun i wr => ∃ k : Nat, k ≤ 2 ∧ i = .int .i64 k ∧ wr = w ∧ (1 ≤ k → a = 0) ∧ (2 ≤ k → b = 0)) (fun i _ => 2 - (intOf i).toNat)
  case atStart => exact ⟨0, by omega, rfl, rfl, fun h => by omega, fun h => by omega⟩
  case round =>
    obtain ⟨k, hk, rfl, rfl, ha, hb⟩ := hrel
    match k, hk, ha, hb with
    | 0, _, _, _ =>
      by_cases c0 : a = 0
      · subst c0
        go_wp2_with fail
        exact ⟨⟨1, by omega, by go_num, by simp⟩, by simp [intOf]⟩
      · have d : (a != 0) = true := by simp [c0]
        have hr := HR.out
        rw [if_pos c0] at hr
        subst hr
        go_wp2_with fail
        go_ret
        exact ⟨rfl, rfl⟩
    | 1, _, ha, _ =>
      obtain rfl := ha (by omega)
      have hr := HR.out
      rw [if_neg (by simp)] at hr
      by_cases c0 : b = 0
      · subst c0
        go_wp2_with fail
        exact ⟨⟨2, by omega, by go_num, by simp⟩, by simp [intOf]⟩
      · have d : (b != 0) = true := by simp [c0]
        subst hr
        go_wp2_with fail
        go_ret
        exact ⟨rfl, rfl⟩
    | 2, _, ha, hb =>
      obtain rfl := ha (by omega)
      obtain rfl := hb (by omega)
      have hr : r = 0 := by rw [HR.out]; simp
      subst hr
      go_wp2_with fail
      go_ret
      exact ⟨rfl, rfl⟩
    | k + 3, hk, _, _ => omega

def cmpS (a b : St) : Int := if cmpI a.1 b.1 ≠ 0 then cmpI a.1 b.1 else cmpI a.2 b.2
/-- a record as a value -/
def recv (d : Rec) : Value := .agg (rc d).toArray

set_option maxRecDepth 100000 in
set_option maxHeartbeats 1600000 in
theorem order_st (x : TOp) (y : Nd) (h k : Bool) (s : St) (w : World) :
    Calls Try.prog 24 #[.agg #[.int .i64 x.st.1, .int .i64 x.st.2, .int .i64 x.seq, .int .i64 x.kind, .int .i64 x.node.1, .int .i64 x.node.2, .bool x.dir, .int .i64 x.par.1, .int .i64 x.par.2, .string (bs x.nm), .string (bs x.mf), .int .i64 y.id.1, .int .i64 y.id.2, .bool y.dir, .int .i64 y.par.1, .int .i64 y.par.2, .string (bs y.nm), .string (bs y.mf), .bool h, .bool k], .agg #[.int .i64 s.1, .int .i64 s.2]] w fun e w' => e = .returned (.int .i64 (cmpS x.st s)) ∧ Below w.heap.size w w' := by
  obtain ⟨r, hr⟩ : ∃ r : Int, r = cmpS x.st s := ⟨_, rfl⟩
  rw [← hr]
  have H25 := Lib.hid (fun g c W' => or_any (cmpI x.st.1 s.1) (cmpI x.st.2 s.2) g c W')
  unfold cmpS at hr
  rw [← hr] at H25
  clear hr
  obtain ⟨W2, hW2⟩ : ∃ W2, W2 = (w.alloc (.cells #[.int .i64 x.st.1, .int .i64 x.st.2, .int .i64 x.seq, .int .i64 x.kind, .int .i64 x.node.1, .int .i64 x.node.2, .bool x.dir, .int .i64 x.par.1, .int .i64 x.par.2, .string (bs x.nm), .string (bs x.mf), .int .i64 y.id.1, .int .i64 y.id.2, .bool y.dir, .int .i64 y.par.1, .int .i64 y.par.2, .string (bs y.nm), .string (bs y.mf), .bool h, .bool k] 58)).alloc (.cells #[.int .i64 s.1, .int .i64 s.2] 27) := ⟨_, rfl⟩
  have c0 : W2.cell? ⟨w.heap.size, 0, none⟩ = some (.int .i64 x.st.1) := by rw [hW2]; simp [go_sem]
  have c1 : W2.cell? ⟨w.heap.size, 1, none⟩ = some (.int .i64 x.st.2) := by rw [hW2]; simp [go_sem]
  have c2 : W2.cell? ⟨w.heap.size + 1, 0, none⟩ = some (.int .i64 s.1) := by rw [hW2]; simp [go_sem]
  have c3 : W2.cell? ⟨w.heap.size + 1, 1, none⟩ = some (.int .i64 s.2) := by rw [hW2]; simp [go_sem]
  have hB : Below w.heap.size w W2 := by rw [hW2]; exact ((Below.refl _ w).alloc (Nat.le_refl _) _).alloc (by simp) _
  have HB := Lib.hid hB
  have HW := Lib.hid hW2
  clear hB hW2
  have k0 := fun u : After W2 => u.cell c0
  have k1 := fun u : After W2 => u.cell c1
  have k2 := fun u : After W2 => u.cell c2
  have k3 := fun u : After W2 => u.cell c3
  go_enter Try.func24, Try.ntmps24
  go_wp2_with fail
  rw [← HW.out]
  clear c0 c1 c2 c3
  refine region_tail_after 14 (by kernel_rfl) (by kernel_rfl) ?_
  simp only [List.take_succ_cons, List.take_zero, List.drop_succ_cons, List.drop_zero]
  repeat (go_big_quiet_step ((go_at_call 26; exact after_same (cmp_any _ _ _))))
  refine wpQuiet_nil ?_
  rintro _ ⟨u, rfl⟩
  have HB3 := Lib.hid (HB.out.trans (u.below.mono HB.out.size))
  clear k0 k1 k2 k3
  go_wp2_with (go_at_call 25; refine (H25.out _ _ _ (by simp [go_sem]) (by simp [go_sem])).mono ?_; rintro e w' ⟨rfl, rfl⟩)
  go_ret
  exact ⟨rfl, HB3.out.alloc HB3.out.size _⟩
end Go.Proofs.Ytaglomhmnoldlaa
