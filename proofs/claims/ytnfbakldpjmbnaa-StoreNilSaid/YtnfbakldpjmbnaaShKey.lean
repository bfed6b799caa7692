/- The key of bytes, by the program and by the document. -/
import Derived.Test.YtnfbakldpjmbnaaShG
namespace Go.Proofs.Ytnfbakldpjmbnaa
open Go.RowKit
attribute [local go_sem] bs_size bs_getElem bs_list bs_append

theorem key_extract (l : List UInt8) : (bs (sumL l)).extract 0 32 = bs ((sumL l).take 32) := by rw [bs_extract]; rfl

set_option maxHeartbeats 400000 in
theorem key_c (l : List UInt8) (hl : l.length ≤ 100000) (w : World) :
    Calls Try.prog 13 #[.string (bs l)] w fun e w' => e = .returned (.string (bs ((sumL l).take 32))) ∧ Below w.heap.size w w' := by
  have hlen := sumL_len l
  have hk := key_extract l
  have h := sum_c l hl
  generalize sumL l = S at *
  have hS : ((32 : Nat)) ≤ (bs S).size := by rw [bs_size]; omega
  go_enter Try.func13, Try.ntmps13
  go_wp2_with fail
  refine (h _).mono ?_
  rintro e w1 ⟨rfl, hb⟩
  go_wp2_with fail
  go_ret
  exact ⟨rfl, hb⟩

end Go.Proofs.Ytnfbakldpjmbnaa
