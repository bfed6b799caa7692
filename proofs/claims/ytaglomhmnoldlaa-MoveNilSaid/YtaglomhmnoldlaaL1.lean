/- The walk of MoveNil. -/
import Derived.Test.YtaglomhmnoldlaaAx
namespace Go.Proofs.Ytaglomhmnoldlaa
open Go.RowKit
attribute [local go_sem] bs_size bs_getElem bs_list bs_append

def stampOp (n : Int) : TOp := ⟨(n, 0), 0, 0, (0, 0), false, (0, 0), [], []⟩
set_option maxRecDepth 100000 in
set_option maxHeartbeats 1600000 in
theorem law_nil (n : Int) (w : World) : Calls Try.prog 6 #[.int .i64 n] w fun e w' => e = .returned (.bool true) ∧ Below w.heap.size w w' := by
  go_enter Try.func6, Try.ntmps6
  go_wp2_with fail
  refine (insert_nil (stampOp n) _).mono ?_
  rintro e w1 ⟨rfl, hb1⟩
  have HB1 := Lib.hid hb1
  clear hb1
  go_wp2_with (first | (go_at_call 13; refine (nodes_nil _).mono ?_; rintro e w2 ⟨rfl, rfl⟩) | (go_at_call 19; refine (ops_nil _).mono ?_; rintro e w2 ⟨rfl, rfl⟩) | (go_at_call 11; refine (redone_nil _).mono ?_; rintro e w2 ⟨rfl, rfl⟩) | (go_at_call 9; refine (awake_any _).mono ?_; rintro e w5 ⟨rfl, hb5⟩; have HB5 := Lib.hid (HB1.out.trans (hb5.mono HB1.out.size)); clear hb5))
  go_ret
  exact ⟨rfl, HB5.out⟩
end Go.Proofs.Ytaglomhmnoldlaa
