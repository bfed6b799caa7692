/- Arguments opened, at this seat's types. -/
import Derived.Test.YtnefjmgpbbgifaaOpensG
import Derived.Test.YtnefjmgpbbgifaaBs
import Derived.Test.YtnefjmgpbbgifaaA
namespace Go.Proofs.Ytnefjmgpbbgifaa.Opens
open Go.ChangeShapes Go.WideShapes Go.ChangeAt Go.RowKit
section
variable {H : Type} {enc : TypeId × Value → H} {w : World} {r : Reach} {b0 : Nat} {v : Value} {d : DataW H} {p : List MemPlace}
theorem open_int (hv : Value.okWide Try.prog w r b0 3 v) (h : DataW.Trod enc Try.prog w 0 (fun _ => true) true 3 v d p) : ∃ x, v = .int .i64 x ∧ I64 x := arg_int Try.underlying3 hv h
end
end Go.Proofs.Ytnefjmgpbbgifaa.Opens
