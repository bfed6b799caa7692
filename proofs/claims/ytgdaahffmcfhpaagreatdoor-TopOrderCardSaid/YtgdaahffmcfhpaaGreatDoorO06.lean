/- Lemmas on the way: PCdD PCdE PCdF. -/
import Derived.Laws.AppendOwnNone
import Derived.Test.YtgdaahffmcfhpaaGreatDoorO05
set_option maxRecDepth 100000
set_option maxHeartbeats 8000000
namespace Go.Proofs.YtgdaahffmcfhpaaGreatDoor
open aA
open Tryz
namespace Pt.Cd
open Go.RowKit
attribute [local go_sem] dR dO dS
def dv (l:List Nat):List Value:=l.map λ(d:Nat)=>Value.int .u8 (d:Int)
theorem own_lt {w:World} {B:Nat} {v:Value} {n:Nat} {xs:List Value} (h:w.ownsRow B 5 1 v n xs) {g:Nat} (hg:v.ownBlock=some g):g < w.heap.size/\B<=g:=by
 rcases h.2 with ⟨rfl,_⟩| ⟨g',cap,cur,rfl,hge,hh,_⟩
 ·cases hg
 ·cases hg
  exact ⟨Blk.lt (t:=5) (cs:=cur) hh,hge⟩
end Pt.Cd
namespace Pt.Cd
open Go.RowKit
attribute [local go_sem] dR dO dS
theorem rnumR_lt (s:List UInt8):(rnumR s).2.2 < 18446744073709551616:=by
 have h:=(rnum_num s 0).2.1;rw [bz] at h;rw [h];exact numR_lt s 0
end Pt.Cd
namespace Pt.Cd
open Go.RowKit
attribute [local go_sem] dR dO dS dP
theorem numU_len (u:Nat):(numU u).length<=9:=by
 have:=jI u;simp [numU];omega
theorem Rd.below {w w':World} {g:Nat} {d:List UInt8} {a:Nat} {e:Int} (h:Rd w g d a e) (hb:Below w w w'):Rd w' g d a e:=Blk.below h hb (Blk.lt h)
theorem Rd.far {w w':World} {g g':Nat} {d:List UInt8} {a:Nat} {e:Int} (h:Rd w g d a e) (hb:w.grownBy w' (some g')) (hne:g≠g'):Rd w' g d a e:=Blk.grown h hb (by intro e;cases e;exact hne rfl)
theorem text_c (s:List UInt8) (w:World) (hs:s.length<=4611686018427387904):
  Calls prog 195 #[s] w λe' w'=>e'=.returned (textL s)/\Below w w w':=by
 have JR:(numL (s.length:Int)).length<=9:=numU_len _;go_enter func195,ntmps195;go_wp2_with fail;refine (num_c s.length _ (by omega)).mono ?_;rintro e w1 ⟨rfl,dV⟩;go_wp2_with fail;go_ret;exact ⟨rfl,dV⟩
end Pt.Cd
end Go.Proofs.YtgdaahffmcfhpaaGreatDoor
