/- The walks of the constants. -/
import Derived.Test.YtnfbakldpjmbnaaShD
import Derived.Great.BuildSlice
namespace Go.Proofs.Ytnfbakldpjmbnaa
open Go.RowKit

def konstI : List Int := konst.map Int.ofNat
theorem konst_cells : (konstI.map (Value.int .u64)).toArray = cellsN 80 konst := by kernel_rfl

set_option maxRecDepth 100000 in
set_option maxHeartbeats 1600000 in
theorem constants_c (w : World) :
    Calls Try.prog 38 #[] w fun e w' => ∃ g, e = .returned (.pointer (some ⟨g, 0, none⟩)) ∧ Blk w' g 86 (cellsN 80 konst) ∧ w.heap.size ≤ g ∧ Below w.heap.size w w' := by
  have hb : ∀ A, A = cellsN 80 konst → Blk (w.alloc (.cells A 86)) w.heap.size 86 (cellsN 80 konst) := fun A h => h ▸ Blk.new w 86 _
  go_enter Try.func38, Try.ntmps38
  go_wp2_with (refine wpList_buildFlatArrTo rfl 86 72 80 _ rfl .u64 konstI (some 1) rfl Try.underlying86 (by kernel_rfl) (by kernel_rfl) (by kernel_rfl) ?_)
  go_ret
  exact ⟨_, rfl, hb _ konst_cells, Nat.le_refl _, (Below.refl _ w).alloc (Nat.le_refl _) _⟩
end Go.Proofs.Ytnfbakldpjmbnaa
