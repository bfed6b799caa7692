/- Manifest of both. -/
import Derived.Test.YtnfbakldpjmbnaaRc
import Derived.Test.YtnfbakldpjmbnaaShKey
namespace Go.Proofs.Ytnfbakldpjmbnaa
open Go.RowKit
attribute [local go_sem] bs_size bs_getElem bs_list bs_append

def ManP (w : World) (d : List UInt8) (e : Ending) (w' : World) : Prop := e = .returned (.tuple #[.string (bs (if d.length ≤ 4096 ∧ d ≠ [] then manL d else [])), .int .i64 (if d.length ≤ 4096 then 0 else 40)]) ∧ Below w.heap.size w w'
theorem ManP.big {w w' : World} {d : List UInt8} (h : ¬ d.length ≤ 4096) (hb : Below w.heap.size w w') : ManP w d (.returned (.tuple #[.string ⟨#[]⟩, .int .i64 40])) w' := by
  unfold ManP; rw [if_neg (fun h' => h h'.1), if_neg h]; exact ⟨rfl, hb⟩
theorem ManP.nil_ {w w' : World} (hb : Below w.heap.size w w') : ManP w [] (.returned (.tuple #[.string ⟨#[]⟩, .int .i64 0])) w' := by
  unfold ManP; exact ⟨rfl, hb⟩
theorem ManP.yes {w w' : World} {d : List UInt8} (h : d.length ≤ 4096) (h0 : d ≠ []) {s : List UInt8} (hs : s = manL d) (hb : Below w.heap.size w w') : ManP w d (.returned (.tuple #[.string (bs s), .int .i64 0])) w' := by
  unfold ManP; rw [if_pos ⟨h, h0⟩, if_pos h, hs]; exact ⟨rfl, hb⟩
/-- what has been written of a manifest -/
def manK (d : List UInt8) (k : Nat) : List UInt8 := Cd.numL d.length ++ (cutK d k).flatMap keyL
theorem manK_zero (d : List UInt8) : manK d 0 = Cd.numL d.length := by simp [manK, cutK]
theorem manK_succ (d : List UInt8) (k : Nat) : manK d (k + 1) = manK d k ++ keyL (piece d k) := by
  unfold manK; rw [cutK_succ, List.flatMap_append, List.append_assoc]; simp
theorem manK_all (d : List UInt8) : manK d (pieces d.length) = manL d := rfl
theorem manK_len (d : List UInt8) (k : Nat) : (manK d k).length ≤ 9 + 32 * k := by
  have h9 : (Cd.numL (d.length : Int)).length ≤ 9 := Cd.numU_len _
  induction k with
  | zero => rw [manK_zero]; omega
  | succ k ih => rw [manK_succ, List.length_append, keyL_len]; omega

end Go.Proofs.Ytnfbakldpjmbnaa
