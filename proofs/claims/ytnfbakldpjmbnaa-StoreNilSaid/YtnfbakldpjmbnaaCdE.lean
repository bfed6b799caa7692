/- The walks of the document's reader. -/
import Derived.Test.YtnfbakldpjmbnaaCdB
namespace Go.Proofs.Ytnfbakldpjmbnaa.Cd
open Go.RowKit
attribute [local go_sem] bs_size bs_getElem bs_list

theorem toI_zero : toI 0 = 0 := by unfold toI; omega
theorem foldB_nil : foldB [] = 0 := rfl
theorem rnumR_lt (s : List UInt8) : (rnumR s).2.2 < 18446744073709551616 := by
  have h := (rnum_num s 0).2.1
  rw [List.drop_zero] at h
  rw [h]; exact numR_lt s 0

end Go.Proofs.Ytnfbakldpjmbnaa.Cd
