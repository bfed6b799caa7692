/- Which stamps may be; a new state; Redone. -/
import Derived.Test.YtaglomhmnoldlaaIn
namespace Go.Proofs.Ytaglomhmnoldlaa
open Go.RowKit
attribute [local go_sem] bs_size bs_getElem bs_list bs_append

def rightS (s : St) : Bool := !(decide (s.1 < 1) || decide (s.1 > 1099511627776) || decide (s.2 < 0) || decide (s.2 ≥ 15))

set_option maxRecDepth 100000 in
set_option maxHeartbeats 1600000 in
theorem right_st (s : St) (w : World) : Calls Try.prog 14 #[.agg #[.int .i64 s.1, .int .i64 s.2]] w fun e w' => e = .returned (.int .i64 (if rightS s then 0 else 20)) ∧ Below w.heap.size w w' := by
  have HB := Lib.hid ((Below.refl w.heap.size w).alloc (Nat.le_refl _) (.cells #[.int .i64 s.1, .int .i64 s.2] 27))
  unfold rightS
  cases h1 : decide (s.1 < 1) <;> cases h2 : decide (s.1 > 1099511627776) <;> cases h3 : decide (s.2 < 0) <;> cases h4 : decide (s.2 ≥ 15)
  all_goals (
    go_enter Try.func14, Try.ntmps14
    go_wp2_with fail
    go_ret
    exact ⟨rfl, HB.out⟩)

set_option maxRecDepth 100000 in
set_option maxHeartbeats 1600000 in
theorem rright_st (s : St) (w : World) : Calls Try.prog 33 #[.agg #[.int .i64 s.1, .int .i64 s.2]] w fun e w' => e = .returned (.int .i64 (if rightS s then 0 else 20)) ∧ Below w.heap.size w w' := by
  have HB := Lib.hid ((Below.refl w.heap.size w).alloc (Nat.le_refl _) (.cells #[.int .i64 s.1, .int .i64 s.2] 27))
  unfold rightS
  cases h1 : decide (s.1 < 1) <;> cases h2 : decide (s.1 > 1099511627776) <;> cases h3 : decide (s.2 < 0) <;> cases h4 : decide (s.2 ≥ 15)
  all_goals (
    go_enter Try.func33, Try.ntmps33
    go_wp2_with fail
    go_ret
    exact ⟨rfl, HB.out⟩)

set_option maxRecDepth 100000 in
set_option maxHeartbeats 1600000 in
theorem new_st (w : World) : Calls Try.prog 10 #[] w fun e w' => e = .returned (.pointer (some ⟨w.heap.size + 1, 0, none⟩)) ∧ Stt w' (w.heap.size + 1) w.heap.size (.slice none 0 0) 0 [] ∧ Below w.heap.size w w' ∧ w'.heap.size = w.heap.size + 2 := by
  have hmk := make51 w
  have hm := MapN.new w
  have hs : Stt ((w.alloc (.map #[] 0)).alloc (.cells #[.slice none 0 0, .map (some w.heap.size), .int .i64 0] 54)) (w.heap.size + 1) w.heap.size (.slice none 0 0) 0 [] :=
    ⟨Blk.new2 w _ 54 _, hm.below ((Below.refl _ _).alloc (Nat.le_refl _) _)⟩
  have HS := Lib.hid hs
  have HB := Lib.hid (((Below.refl w.heap.size w).alloc (Nat.le_refl _) (.map #[] 0)).alloc (by simp) (.cells #[.slice none 0 0, .map (some w.heap.size), .int .i64 0] 54))
  clear hm hs
  go_enter Try.func10, Try.ntmps10
  go_wp2_with fail
  go_ret
  exact ⟨rfl, HS.out, HB.out, by simp⟩

set_option maxRecDepth 100000 in
set_option maxHeartbeats 1600000 in
theorem redone_nil (w : World) : Calls Try.prog 11 #[.pointer none] w fun e w' => e = .returned (.int .i64 0) ∧ w = w' := by
  go_enter Try.func11, Try.ntmps11
  go_wp2_with fail
  go_ret
  exact ⟨rfl, rfl⟩

set_option maxRecDepth 100000 in
set_option maxHeartbeats 1600000 in
theorem redone_st (p m : Nat) (v : Value) (r : Int) (es : List Nd) (w : World) (h : Stt w p m v r es) : Calls Try.prog 11 #[.pointer (some ⟨p, 0, none⟩)] w fun e w' => e = .returned (.int .i64 r) ∧ w = w' := by
  have c2 := h.c2
  clear h
  go_enter Try.func11, Try.ntmps11
  go_wp2_with fail
  go_ret
  exact ⟨rfl, rfl⟩
end Go.Proofs.Ytaglomhmnoldlaa
