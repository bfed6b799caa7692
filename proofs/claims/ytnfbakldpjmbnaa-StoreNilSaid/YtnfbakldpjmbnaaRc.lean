/- The document's Cut; texts. -/
import Derived.Test.YtnfbakldpjmbnaaPl
import Derived.Deep.Cut
namespace Go.Proofs.Ytnfbakldpjmbnaa
open Go.RowKit
attribute [local go_sem] bs_size bs_getElem bs_list bs_append

def strSize : Value → Nat
  | .string s => s.size
  | _ => 0
theorem strSize_bs (l : List UInt8) : strSize (.string (bs l)) = l.length := bs_size l
theorem take_extract (s : List UInt8) (n : Nat) : (bs s).extract 0 n = bs (s.take n) := by rw [bs_extract]; simp
def cutK (d : List UInt8) (k : Nat) : List (List UInt8) := (List.range k).map (piece d)
theorem cutK_succ (d : List UInt8) (k : Nat) : cutK d (k + 1) = cutK d k ++ [piece d k] := by simp [cutK, List.range_succ]
theorem cutK_len (d : List UInt8) (k : Nat) : (cutK d k).length = k := by simp [cutK]
theorem cutK_all (d : List UInt8) : cutK d (pieces d.length) = cutL d := rfl

end Go.Proofs.Ytnfbakldpjmbnaa
