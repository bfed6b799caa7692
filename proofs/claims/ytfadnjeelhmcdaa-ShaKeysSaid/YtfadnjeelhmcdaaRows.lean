/-
  No cell of these rows narrows 'for every input' (looked for: loops, veiled, ifaces, maps, wideKeys, modest, calm, conditions, laid).
  DERIVED. THE GIVEN ROWS OF THIS SEAT. 3 by the template 'for every input the law returns true; each argument reads behind the call as it read before'; 0 by the template 'total and deterministic' (their statements: YtfadnjeelhmcdaaTotals.lean).
  GIVEN WITH THE SEED: the statements are not yours to turn. If you find one false, say at which input.
  Laid BY PROGRAM, IN A SANDBOX (cutbox-rows.mjs): the forced cells as the released guide's own fill.sh prints them over the translation a007aaba70a7ccf2… (all of the seat's roots in one cut). By AI agents, Wed Nov 11 2026. No macro, syntax, notation, axiom, sorry.
-/
import Derived.Test.YtfadnjeelhmcdaaChecked
import GoSem.Claim
import GoSem.ClaimJoined
import GoSem.ClaimMapViews
import Derived.JoinedTies
import Derived.KernelRfl
namespace Go.Proofs.Ytfadnjeelhmcdaa
/- THE CELL 'sum', in the pinned program and in every row, IS THE sha256 OF THE DUMP (.gsa) THAT YtfadnjeelhmcdaaProg.lean LOADS. Nothing in Lean hashes anything: it is a label: what it is worth is what the hold of that sum in a sandbox is worth. -/
noncomputable def Try.pinned : Pinned := { name := "ytfadnjeelhmcdaa", sum := "a007aaba70a7ccf20a48f23999a05d666611be2094b1586a5cfc56433fc66648", checked := Try.checked }
namespace Rows
def none {H : Type} : Left H := { results := [], args := [] }

/-- 'arbourlaw03.ShaSums': WHATEVER THE INPUT: true; the input reads as it did. -/
def shaSumsSpec : ChangeSpec := { name := "shaSums", fn := fun _ => fun
  | [d] => { results := [.lit (.bool true)], args := [d] }
  | _ => none }
def shaSumsRow : OpenClaim := { program := "ytfadnjeelhmcdaa", sum := "a007aaba70a7ccf20a48f23999a05d666611be2094b1586a5cfc56433fc66648", func := "arbour/arbourlaw03.ShaSums", spec := "shaSums", apart := false }
def ShaSumsSaid : Prop := shaSumsRow.holds Try.pinned (OpenSpec.ofChange shaSumsSpec)

/-- ITS FALSE NEIGHBOUR: 'it returns false'. Refute it at one input. -/
def shaSumsWrong : ChangeSpec := { name := "shaSums", fn := fun _ => fun
  | [d] => { results := [.lit (.bool false)], args := [d] }
  | _ => none }
def ShaSumsWrongFalsely : Prop := shaSumsRow.holds Try.pinned (OpenSpec.ofChange shaSumsWrong)

/-- 'arbourlaw03.ShaKeys': WHATEVER THE INPUT: true; the input reads as it did. -/
def shaKeysSpec : ChangeSpec := { name := "shaKeys", fn := fun _ => fun
  | [d] => { results := [.lit (.bool true)], args := [d] }
  | _ => none }
def shaKeysRow : OpenClaim := { program := "ytfadnjeelhmcdaa", sum := "a007aaba70a7ccf20a48f23999a05d666611be2094b1586a5cfc56433fc66648", func := "arbour/arbourlaw03.ShaKeys", spec := "shaKeys", apart := false }
def ShaKeysSaid : Prop := shaKeysRow.holds Try.pinned (OpenSpec.ofChange shaKeysSpec)

/-- ITS FALSE NEIGHBOUR: 'it returns false'. Refute it at one input. -/
def shaKeysWrong : ChangeSpec := { name := "shaKeys", fn := fun _ => fun
  | [d] => { results := [.lit (.bool false)], args := [d] }
  | _ => none }
def ShaKeysWrongFalsely : Prop := shaKeysRow.holds Try.pinned (OpenSpec.ofChange shaKeysWrong)

/-- 'arbourlaw03.ShaSizes': WHATEVER THE INPUT: true; the input reads as it did. -/
def shaSizesSpec : ChangeSpec := { name := "shaSizes", fn := fun _ => fun
  | [d] => { results := [.lit (.bool true)], args := [d] }
  | _ => none }
def shaSizesRow : OpenClaim := { program := "ytfadnjeelhmcdaa", sum := "a007aaba70a7ccf20a48f23999a05d666611be2094b1586a5cfc56433fc66648", func := "arbour/arbourlaw03.ShaSizes", spec := "shaSizes", apart := false }
def ShaSizesSaid : Prop := shaSizesRow.holds Try.pinned (OpenSpec.ofChange shaSizesSpec)

/-- ITS FALSE NEIGHBOUR: 'it returns false'. Refute it at one input. -/
def shaSizesWrong : ChangeSpec := { name := "shaSizes", fn := fun _ => fun
  | [d] => { results := [.lit (.bool false)], args := [d] }
  | _ => none }
def ShaSizesWrongFalsely : Prop := shaSizesRow.holds Try.pinned (OpenSpec.ofChange shaSizesWrong)

/- THE SECOND FORM. 'bulk': how many values and letters a reading holds, each counted each time it is reached (what is shared counts as often as it is met; a slice's spare places count too). A statement '..UptoSaid' is the law's where the arguments, and the package variables that the reading takes, are together of bulk at most 1048576: NARROWER than '..Said'. Prove '..Said' where nothing that the law and all that it calls make is longer than what came in: it says more and counts as full. Else prove '..UptoSaid'. A law counts once. -/
mutual
def uptoBulk {H : Type} : DataW H → Nat
  | .lit (.string bytes) => bytes.length + 1
  | .lit _ => 1
  | .nil => 1
  | .ptr d => uptoBulk d + 1
  | .slice elems spare => uptoBulkAll elems + uptoBulkAll spare + 1
  | .agg parts => uptoBulkAll parts + 1
  | .iface _ d => uptoBulk d + 1
  | .map entries => uptoBulkEntries entries + 1
  | .held _ => 1
def uptoBulkAll {H : Type} : List (DataW H) → Nat
  | [] => 0
  | d :: r => uptoBulk d + uptoBulkAll r
def uptoBulkEntries {H : Type} : List (Lit × DataW H) → Nat
  | [] => 0
  | x :: r => uptoBulkEntry x + uptoBulkEntries r
def uptoBulkEntry {H : Type} : Lit × DataW H → Nat
  | (.string bytes, d) => bytes.length + uptoBulk d + 1
  | (_, d) => uptoBulk d + 1
 end
def uptoSmall : (H : Type) → List (DataW H) → Bool := fun _ ds => decide (uptoBulkAll ds ≤ 1048576)
def OpenSpec.upto (s : _root_.Go.ChangeSpec) : _root_.Go.OpenSpec := { _root_.Go.OpenSpec.ofChange s with cond := some uptoSmall }

/-- 'arbourlaw03.ShaSums', WHERE WHAT IT READS IS OF BULK AT MOST 1048576: true; the input reads as it did. -/
def shaSumsUptoRow : OpenClaim := { program := "ytfadnjeelhmcdaa", sum := "a007aaba70a7ccf20a48f23999a05d666611be2094b1586a5cfc56433fc66648", func := "arbour/arbourlaw03.ShaSums", spec := "shaSums", apart := false, narrowed := true }
def ShaSumsUptoSaid : Prop := shaSumsUptoRow.holds Try.pinned (OpenSpec.upto shaSumsSpec)

/-- 'arbourlaw03.ShaKeys', WHERE WHAT IT READS IS OF BULK AT MOST 1048576: true; the input reads as it did. -/
def shaKeysUptoRow : OpenClaim := { program := "ytfadnjeelhmcdaa", sum := "a007aaba70a7ccf20a48f23999a05d666611be2094b1586a5cfc56433fc66648", func := "arbour/arbourlaw03.ShaKeys", spec := "shaKeys", apart := false, narrowed := true }
def ShaKeysUptoSaid : Prop := shaKeysUptoRow.holds Try.pinned (OpenSpec.upto shaKeysSpec)

/-- 'arbourlaw03.ShaSizes', WHERE WHAT IT READS IS OF BULK AT MOST 1048576: true; the input reads as it did. -/
def shaSizesUptoRow : OpenClaim := { program := "ytfadnjeelhmcdaa", sum := "a007aaba70a7ccf20a48f23999a05d666611be2094b1586a5cfc56433fc66648", func := "arbour/arbourlaw03.ShaSizes", spec := "shaSizes", apart := false, narrowed := true }
def ShaSizesUptoSaid : Prop := shaSizesUptoRow.holds Try.pinned (OpenSpec.upto shaSizesSpec)

end Rows
end Go.Proofs.Ytfadnjeelhmcdaa
