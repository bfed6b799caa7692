/- Strings as lists of bytes. -/
import Derived.WalkKit
namespace Go.Proofs.Ytaglomhmnoldlaa

def bs (l : List UInt8) : ByteArray := ⟨l.toArray⟩
theorem bs_size (l : List UInt8) : (bs l).size = l.length := by simp [bs, ByteArray.size]
theorem bs_getElem (l : List UInt8) (i : Nat) (h : i < (bs l).size) : (bs l)[i]'h = l[i]'(by rw [bs_size] at h; exact h) := rfl
theorem bs_list (l : List UInt8) : (bs l).toList = l := ByteArray.toList_mk l
theorem bs_toList (l : List UInt8) : (bs l).data.toList = l := by simp [bs]
theorem bs_eq (s : ByteArray) : s = bs s.data.toList := by simp [bs]
theorem bs_inj {a b : List UInt8} : bs a = bs b ↔ a = b := by
  constructor
  · intro h; have := congrArg (fun s : ByteArray => s.data.toList) h; simpa [bs] using this
  · rintro rfl; rfl
theorem bs_extract (l : List UInt8) (a b : Nat) : (bs l).extract a b = bs ((l.drop a).take (b - a)) := by
  rw [bs_eq ((bs l).extract a b)]
  congr 1
  rw [show (bs l).extract a b = (⟨l.toArray⟩ : ByteArray).extract a b from rfl]
  simp [List.extract_eq_take_drop]
theorem bs_append (a b : List UInt8) : bs a ++ bs b = bs (a ++ b) := by
  rw [bs_eq (bs a ++ bs b)]; simp [bs]

end Go.Proofs.Ytaglomhmnoldlaa
