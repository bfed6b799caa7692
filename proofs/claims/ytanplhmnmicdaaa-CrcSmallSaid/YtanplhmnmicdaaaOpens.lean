/- Arguments opened, at this seat's types. -/
import Derived.Test.YtanplhmnmicdaaaOpensG
import Derived.Test.YtanplhmnmicdaaaBs
import Derived.Test.YtanplhmnmicdaaaRows
namespace Go.Proofs.Ytanplhmnmicdaaa.Opens
open Go.ChangeShapes Go.WideShapes Go.ChangeAt Go.RowKit
section
variable {H : Type} {enc : TypeId × Value → H} {w : World} {r : Reach} {b0 : Nat} {v : Value} {d : DataW H} {p : List MemPlace}
theorem open_int (hv : Value.okWide Try.prog w r b0 3 v) (h : DataW.Trod enc Try.prog w 0 (fun _ => true) true 3 v d p) : ∃ x, v = .int .i64 x ∧ I64 x := arg_int Try.underlying3 hv h
theorem open_str (hv : Value.okWide Try.prog w r b0 9 v) (h : DataW.Trod enc Try.prog w 0 (fun _ => true) true 9 v d p) : ∃ s, v = .string (bs s) ∧ s.length ≤ 9223372036854775807 := arg_str Try.underlying9 hv h
theorem open_byte (hv : Value.okWide Try.prog w r b0 5 v) (h : DataW.Trod enc Try.prog w 0 (fun _ => true) true 5 v d p) : ∃ x : UInt8, v = .int .u8 (x.toNat : Int) := by
  obtain ⟨x, rfl, _, _, wx⟩ := ChangeShapes.open_int Try.underlying5 hv h
  simp [Lit.wf, IntKind.min, IntKind.max, IntKind.signed, IntKind.bits] at wx
  exact ⟨UInt8.ofNat x.toNat, by simp; omega⟩
end
end Go.Proofs.Ytanplhmnmicdaaa.Opens
