/- Arguments opened, at this seat's types. -/
import Derived.Test.YticgcpbblefacaaOpensG
import Derived.Test.YticgcpbblefacaaRows
import Derived.Test.YticgcpbblefacaaBs
namespace Go.Proofs.Yticgcpbblefacaa.Opens
open Go.ChangeShapes Go.WideShapes Go.ChangeAt Go.RowKit
section
variable {H : Type} {enc : TypeId × Value → H} {w : World} {r : Reach} {b0 : Nat} {v : Value} {d : DataW H} {p : List MemPlace}
theorem open_str (hv : Value.okWide Try.prog w r b0 9 v) (h : DataW.Trod enc Try.prog w 0 (fun _ => true) true 9 v d p) : ∃ s, v = .string (bs s) ∧ s.length ≤ 9223372036854775807 := arg_str Try.underlying9 hv h
theorem open_int (hv : Value.okWide Try.prog w r b0 3 v) (h : DataW.Trod enc Try.prog w 0 (fun _ => true) true 3 v d p) : ∃ x, v = .int .i64 x ∧ I64 x := arg_int Try.underlying3 hv h
theorem open_bool (hv : Value.okWide Try.prog w r b0 4 v) (h : DataW.Trod enc Try.prog w 0 (fun _ => true) true 4 v d p) : ∃ x, v = .bool x := arg_bool Try.underlying4 hv h
end
end Go.Proofs.Yticgcpbblefacaa.Opens
