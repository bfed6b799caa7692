/- The walks of the constants. -/
import Derived.Test.YtdmopbfckdadnaaShD
import Derived.Great.BuildSlice
namespace Go.Proofs.Ytdmopbfckdadnaa
open Go.RowKit

def konstI : List Int := konst.map Int.ofNat
theorem konst_cells : (konstI.map (Value.int .u64)).toArray = cellsN 80 konst := by kernel_rfl

set_option maxRecDepth 100000 in
set_option maxHeartbeats 1600000 in
theorem constants_c (w : World) :
    Calls Try.prog 42 #[] w fun e w' => ∃ g, e = .returned (.pointer (some ⟨g, 0, none⟩)) ∧ Blk w' g 76 (cellsN 80 konst) ∧ w.heap.size ≤ g ∧ Below w.heap.size w w' := by
  have hb : ∀ A, A = cellsN 80 konst → Blk (w.alloc (.cells A 76)) w.heap.size 76 (cellsN 80 konst) := fun A h => h ▸ Blk.new w 76 _
  go_enter Try.func42, Try.ntmps42
  go_wp2_with (refine wpList_buildFlatArrTo rfl 76 57 80 _ rfl .u64 konstI (some 1) rfl Try.underlying76 (by kernel_rfl) (by kernel_rfl) (by kernel_rfl) ?_)
  go_ret
  exact ⟨_, rfl, hb _ konst_cells, Nat.le_refl _, (Below.refl _ w).alloc (Nat.le_refl _) _⟩
set_option maxRecDepth 100000 in
set_option maxHeartbeats 1600000 in
theorem constants_r (w : World) :
    Calls Try.prog 39 #[] w fun e w' => ∃ g, e = .returned (.slice (some ⟨g, 0, none⟩) 80 80) ∧ Blk w' g 57 (cellsN 80 konst) ∧ w.heap.size ≤ g ∧ Below w.heap.size w w' := by
  have hb : ∀ A, A = cellsN 80 konst → Blk (w.alloc (.cells A 57)) w.heap.size 57 (cellsN 80 konst) := fun A h => h ▸ Blk.new w 57 _
  go_enter Try.func39, Try.ntmps39
  go_wp2_with (refine wpList_buildFlatAt rfl 69 57 80 _ rfl .u64 konstI _ rfl (some 1) rfl Try.underlying69 (by kernel_rfl) (by kernel_rfl) (by kernel_rfl) (by decide) (by decide) (by kernel_rfl) ?_)
  go_ret
  exact ⟨_, rfl, hb _ konst_cells, Nat.le_refl _, (Below.refl _ w).alloc (Nat.le_refl _) _⟩
end Go.Proofs.Ytdmopbfckdadnaa
