/- The comparison of two nodes by their stamps. -/
import Derived.Test.YtaglomhmnoldlaaVi
import Derived.Sort.Grow
namespace Go.Proofs.Ytaglomhmnoldlaa
open Go.RowKit Go.Sort
attribute [local go_sem] bs_size bs_getElem bs_list bs_append

set_option maxRecDepth 100000 in
set_option maxHeartbeats 1600000 in
theorem less_exact (a b : St) (w : World) : Calls Try.prog 15 #[.agg #[.int .i64 a.1, .int .i64 a.2], .agg #[.int .i64 b.1, .int .i64 b.2]] w fun e w' => e = .returned (.bool (lessS a b)) ∧ w' = (w.alloc (.cells #[.int .i64 a.1, .int .i64 a.2] 27)).alloc (.cells #[.int .i64 b.1, .int .i64 b.2] 27) := by
  by_cases h : a.1 = b.1
  · have e : (a.1 == b.1) = true := beq_iff_eq.2 h
    have hf : lessS a b = decide (a.2 < b.2) := by unfold lessS; simp [h]
    rw [hf]
    have e2 : (a.1 != b.1) = false := by simp [h]
    clear h hf
    go_enter Try.func15, Try.ntmps15
    go_wp2_with fail
    go_ret
    exact ⟨rfl, rfl⟩
  · have e : (a.1 == b.1) = false := beq_eq_false_iff_ne.2 h
    have e2 : (a.1 != b.1) = true := by simp [h]
    have hf : lessS a b = decide (a.1 < b.1) := by unfold lessS; simp [h]
    rw [hf]
    clear h hf
    go_enter Try.func15, Try.ntmps15
    go_wp2_with fail
    go_ret
    exact ⟨rfl, rfl⟩

def cmpN (x y : Nd) : Int := if lessS x.id y.id then -1 else 1

set_option maxRecDepth 100000 in
set_option maxHeartbeats 1600000 in
theorem order_nd (x y : Nd) (W : World) : Calls Try.prog 32 #[nv x, nv y] W fun e w' => e = .returned (.int .i64 (cmpN x y)) ∧ ∃ q os', w' = grow (W.drewN q) os' := by
  have hG : ∃ q os', (((W.alloc (.cells (nc x).toArray 38)).alloc (.cells (nc y).toArray 38)).alloc (.cells #[.int .i64 x.id.1, .int .i64 x.id.2] 27)).alloc (.cells #[.int .i64 y.id.1, .int .i64 y.id.2] 27) = grow (W.drewN q) os' :=
    ⟨0, _, by rw [alloc_eq_grow, alloc_eq_grow, alloc_eq_grow, alloc_eq_grow, grow_grow, grow_grow, grow_grow]; rfl⟩
  have HG := Lib.hid hG
  unfold nc at HG
  clear hG
  unfold nv cmpN
  cases hl : lessS x.id y.id with
  | true =>
    have HL := Lib.hid hl
    clear hl
    go_enter Try.func32, Try.ntmps32
    go_wp2_with (go_at_call 15; refine (less_exact _ _ _).mono ?_; rintro e w' ⟨rfl, rfl⟩; rw [HL.out])
    go_ret
    exact ⟨rfl, HG.out⟩
  | false =>
    have HL := Lib.hid hl
    clear hl
    go_enter Try.func32, Try.ntmps32
    go_wp2_with (go_at_call 15; refine (less_exact _ _ _).mono ?_; rintro e w' ⟨rfl, rfl⟩; rw [HL.out])
    go_ret
    exact ⟨rfl, HG.out⟩
end Go.Proofs.Ytaglomhmnoldlaa
