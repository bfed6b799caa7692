/- The walks of the two writers of texts, of awake, and of the laws on numbers, texts, a nil reader. -/
import Derived.Test.YtnfbakldpjmbnaaCdD
import Derived.Test.YtnfbakldpjmbnaaCdE
namespace Go.Proofs.Ytnfbakldpjmbnaa.Cd
open Go.RowKit
attribute [local go_sem] bs_size bs_getElem bs_list bs_append

theorem numU_len (u : Nat) : (numU u).length ≤ 9 := by
  have := digs_len u
  simp [numU]; omega

theorem Rd.below {w w' : World} {g : Nat} {d : List UInt8} {a : Nat} {e : Int} (h : Rd w g d a e) (hb : Below w.heap.size w w') : Rd w' g d a e := Blk.below h hb (Blk.lt h)
theorem Rd.far {w w' : World} {g g' : Nat} {d : List UInt8} {a : Nat} {e : Int} (h : Rd w g d a e) (hb : w.grownBy w' (some g')) (hne : g ≠ g') : Rd w' g d a e := Blk.grown h hb (by intro e; cases e; exact hne rfl)
end Go.Proofs.Ytnfbakldpjmbnaa.Cd
