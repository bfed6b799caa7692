/- Arguments opened, at this seat's types. -/
import Derived.Test.YtnfbakldpjmbnaaOpensG
import Derived.Test.YtnfbakldpjmbnaaRows
import Derived.Test.YtnfbakldpjmbnaaBs
namespace Go.Proofs.Ytnfbakldpjmbnaa.Opens
open Go.ChangeShapes Go.WideShapes Go.ChangeAt Go.RowKit
section
variable {H : Type} {enc : TypeId × Value → H} {w : World} {r : Reach} {b0 : Nat} {v : Value} {d : DataW H} {p : List MemPlace}
theorem open_str (hv : Value.okWide Try.prog w r b0 9 v) (h : DataW.Trod enc Try.prog w 0 (fun _ => true) true 9 v d p) : ∃ s, v = .string (bs s) ∧ s.length ≤ 9223372036854775807 := arg_str Try.underlying9 hv h
end
end Go.Proofs.Ytnfbakldpjmbnaa.Opens
