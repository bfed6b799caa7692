/- Lemmas on the way: PCdD PCdE PCdF. -/
import Derived.Laws.AppendOwnNone
import Derived.Test.YtgdaahffmcfhpaaGreatDoorT05
import Derived.Test.YtgdaahffmcfhpaaGreatDoorT00
set_option maxRecDepth 100000
set_option maxHeartbeats 8000000
namespace Go.Proofs.YtgdaahffmcfhpaaGreatDoor
open Tryz
namespace Pt.Cd
open Go.RowKit
attribute [local go_sem] dO dL dQ
end Pt.Cd
namespace Pt.Cd
open Go.RowKit
attribute [local go_sem] dO dL dQ
theorem rnumR_lt (s:List UInt8):(rnumR s).2.2 < 18446744073709551616:=by
 have h:=(rnum_num s 0).2.1;rw [bk] at h;rw [h];exact numR_lt s 0
end Pt.Cd
namespace Pt.Cd
open Go.RowKit
attribute [local go_sem] dO dL dQ dM
theorem numU_len (u:Nat):(numU u).length<=9:=by
 have:=ia u;simp [numU];omega
theorem text_c (s:List UInt8) (w:World) (hs:s.length<=4611686018427387904):
  Calls prog 195 #[.string (bs s)] w fun e' w'=>e'=.returned (.string (bs (textL s)))/\Below w.heap.size w w':=by
 have EI:(numL (s.length:Int)).length<=9:=numU_len _;go_enter func195,ntmps195;go_wp2_with fail;refine (num_c s.length _ (by omega)).mono ?_;rintro e w1 ⟨rfl,dR⟩;go_wp2_with fail;go_ret;exact ⟨rfl,dR⟩
end Pt.Cd
end Go.Proofs.YtgdaahffmcfhpaaGreatDoor
