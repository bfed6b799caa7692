/- Arguments opened, at this seat's types. -/
import Derived.Test.YtabdgomlcaglbaaOpensG
import Derived.Test.YtabdgomlcaglbaaPlain
import Derived.Test.YtabdgomlcaglbaaRows
namespace Go.Proofs.Ytabdgomlcaglbaa.Opens
open Go.ChangeShapes Go.WideShapes Go.ChangeAt Go.RowKit
section
variable {H : Type} {enc : TypeId × Value → H} {w : World} {r : Reach} {b0 : Nat} {v : Value} {d : DataW H} {p : List MemPlace}
def StrB (cs : List Value) (s : List UInt8) : Prop := cs = [.string (bs s)] ∧ s.length ≤ 9223372036854775807
theorem open_int (hv : Value.okWide Try.prog w r b0 3 v) (h : DataW.Trod enc Try.prog w 0 (fun _ => true) true 3 v d p) : ∃ x, v = .int .i64 x ∧ I64 x := arg_int Try.underlying3 hv h
theorem open_str (hv : Value.okWide Try.prog w r b0 9 v) (h : DataW.Trod enc Try.prog w 0 (fun _ => true) true 9 v d p) : ∃ s, v = .string (bs s) ∧ s.length ≤ 9223372036854775807 := arg_str Try.underlying9 hv h
theorem open_ints (hv : Value.okWide Try.prog w r b0 38 v) (h : DataW.Trod enc Try.prog w 0 (fun _ => true) true 38 v d p) : ∃ A n c xs, v = .slice A n c ∧ Sl w 1 IntC A n c xs := arg_sl (by decide) Try.underlying38 (by kernel_rfl) (int_of Try.underlying3) hv h
theorem open_bools (hv : Value.okWide Try.prog w r b0 27 v) (h : DataW.Trod enc Try.prog w 0 (fun _ => true) true 27 v d p) : ∃ A n c xs, v = .slice A n c ∧ Sl w 1 BoolC A n c xs := arg_sl (by decide) Try.underlying27 (by kernel_rfl) (bool_of Try.underlying4) hv h
theorem open_strs (hv : Value.okWide Try.prog w r b0 39 v) (h : DataW.Trod enc Try.prog w 0 (fun _ => true) true 39 v d p) : ∃ A n c xs, v = .slice A n c ∧ Sl w 1 StrB A n c xs := arg_sl (by decide) Try.underlying39 (by kernel_rfl) (str_of Try.underlying9) hv h
end
end Go.Proofs.Ytabdgomlcaglbaa.Opens
