/-
  No cell of these rows narrows 'for every input' (looked for: loops, veiled, ifaces, maps, wideKeys, modest, calm, conditions, laid).
  DERIVED. THE GIVEN ROWS OF THIS SEAT. 6 by the template 'for every input the law returns true; each argument reads behind the call as it read before'; 0 by the template 'total and deterministic' (their statements: YtkkmleglaljacaaTotals.lean).
  GIVEN WITH THE SEED: the statements are not yours to turn. If you find one false, say at which input.
  Laid BY PROGRAM, IN A SANDBOX (cutbox-rows.mjs): the forced cells as the released guide's own fill.sh prints them over the translation cf4e28345f8b5c3f… (all of the seat's roots in one cut). By AI agents, Wed Nov 11 2026. No macro, syntax, notation, axiom, sorry.
-/
import Derived.Test.YtkkmleglaljacaaChecked
import GoSem.Claim
import GoSem.ClaimJoined
import GoSem.ClaimMapViews
import Derived.JoinedTies
import Derived.KernelRfl
namespace Go.Proofs.Ytkkmleglaljacaa
/- THE CELL 'sum', in the pinned program and in every row, IS THE sha256 OF THE DUMP (.gsa) THAT YtkkmleglaljacaaProg.lean LOADS. Nothing in Lean hashes anything: it is a label: what it is worth is what the hold of that sum in a sandbox is worth. -/
noncomputable def Try.pinned : Pinned := { name := "ytkkmleglaljacaa", sum := "cf4e28345f8b5c3fcb9f27d33d7f04ac5454e5926f34c170754c1a9e90b407eb", checked := Try.checked }
namespace Rows
def none {H : Type} : Left H := { results := [], args := [] }

/-- 'arbourlaw17.IndexGaps': WHATEVER THE INPUT: true; the input reads as it did. -/
def indexGapsSpec : ChangeSpec := { name := "indexGaps", fn := fun _ => fun
  | [d1, d2] => { results := [.lit (.bool true)], args := [d1, d2] }
  | _ => none }
def indexGapsRow : OpenClaim := { program := "ytkkmleglaljacaa", sum := "cf4e28345f8b5c3fcb9f27d33d7f04ac5454e5926f34c170754c1a9e90b407eb", func := "arbour/arbourlaw17.IndexGaps", spec := "indexGaps", unfollowed := true, recurses := true, apart := false }
def IndexGapsSaid : Prop := indexGapsRow.holds Try.pinned (OpenSpec.ofChange indexGapsSpec)

/-- ITS FALSE NEIGHBOUR: 'it returns false'. Refute it at one input. -/
def indexGapsWrong : ChangeSpec := { name := "indexGaps", fn := fun _ => fun
  | [d1, d2] => { results := [.lit (.bool false)], args := [d1, d2] }
  | _ => none }
def IndexGapsWrongFalsely : Prop := indexGapsRow.holds Try.pinned (OpenSpec.ofChange indexGapsWrong)

/-- 'arbourlaw17.IndexSame': WHATEVER THE INPUT: true; the input reads as it did. -/
def indexSameSpec : ChangeSpec := { name := "indexSame", fn := fun _ => fun
  | [d1, d2] => { results := [.lit (.bool true)], args := [d1, d2] }
  | _ => none }
def indexSameRow : OpenClaim := { program := "ytkkmleglaljacaa", sum := "cf4e28345f8b5c3fcb9f27d33d7f04ac5454e5926f34c170754c1a9e90b407eb", func := "arbour/arbourlaw17.IndexSame", spec := "indexSame", unfollowed := true, recurses := true, apart := false }
def IndexSameSaid : Prop := indexSameRow.holds Try.pinned (OpenSpec.ofChange indexSameSpec)

/-- ITS FALSE NEIGHBOUR: 'it returns false'. Refute it at one input. -/
def indexSameWrong : ChangeSpec := { name := "indexSame", fn := fun _ => fun
  | [d1, d2] => { results := [.lit (.bool false)], args := [d1, d2] }
  | _ => none }
def IndexSameWrongFalsely : Prop := indexSameRow.holds Try.pinned (OpenSpec.ofChange indexSameWrong)

/-- 'arbourlaw17.IndexPlays': WHATEVER THE INPUT: true; the input reads as it did. -/
def indexPlaysSpec : ChangeSpec := { name := "indexPlays", fn := fun _ => fun
  | [d1, d2] => { results := [.lit (.bool true)], args := [d1, d2] }
  | _ => none }
def indexPlaysRow : OpenClaim := { program := "ytkkmleglaljacaa", sum := "cf4e28345f8b5c3fcb9f27d33d7f04ac5454e5926f34c170754c1a9e90b407eb", func := "arbour/arbourlaw17.IndexPlays", spec := "indexPlays", unfollowed := true, recurses := true, apart := false }
def IndexPlaysSaid : Prop := indexPlaysRow.holds Try.pinned (OpenSpec.ofChange indexPlaysSpec)

/-- ITS FALSE NEIGHBOUR: 'it returns false'. Refute it at one input. -/
def indexPlaysWrong : ChangeSpec := { name := "indexPlays", fn := fun _ => fun
  | [d1, d2] => { results := [.lit (.bool false)], args := [d1, d2] }
  | _ => none }
def IndexPlaysWrongFalsely : Prop := indexPlaysRow.holds Try.pinned (OpenSpec.ofChange indexPlaysWrong)

/-- 'arbourlaw17.IndexHas': WHATEVER THE INPUT: true; the input reads as it did. -/
def indexHasSpec : ChangeSpec := { name := "indexHas", fn := fun _ => fun
  | [d1, d2] => { results := [.lit (.bool true)], args := [d1, d2] }
  | _ => none }
def indexHasRow : OpenClaim := { program := "ytkkmleglaljacaa", sum := "cf4e28345f8b5c3fcb9f27d33d7f04ac5454e5926f34c170754c1a9e90b407eb", func := "arbour/arbourlaw17.IndexHas", spec := "indexHas", unfollowed := true, recurses := true, apart := false }
def IndexHasSaid : Prop := indexHasRow.holds Try.pinned (OpenSpec.ofChange indexHasSpec)

/-- ITS FALSE NEIGHBOUR: 'it returns false'. Refute it at one input. -/
def indexHasWrong : ChangeSpec := { name := "indexHas", fn := fun _ => fun
  | [d1, d2] => { results := [.lit (.bool false)], args := [d1, d2] }
  | _ => none }
def IndexHasWrongFalsely : Prop := indexHasRow.holds Try.pinned (OpenSpec.ofChange indexHasWrong)

/-- 'arbourlaw17.IndexNil': WHATEVER THE INPUT: true; the input reads as it did. -/
def indexNilSpec : ChangeSpec := { name := "indexNil", fn := fun _ => fun
  | [d] => { results := [.lit (.bool true)], args := [d] }
  | _ => none }
def indexNilRow : OpenClaim := { program := "ytkkmleglaljacaa", sum := "cf4e28345f8b5c3fcb9f27d33d7f04ac5454e5926f34c170754c1a9e90b407eb", func := "arbour/arbourlaw17.IndexNil", spec := "indexNil", unfollowed := true, recurses := true, apart := false }
def IndexNilSaid : Prop := indexNilRow.holds Try.pinned (OpenSpec.ofChange indexNilSpec)

/-- ITS FALSE NEIGHBOUR: 'it returns false'. Refute it at one input. -/
def indexNilWrong : ChangeSpec := { name := "indexNil", fn := fun _ => fun
  | [d] => { results := [.lit (.bool false)], args := [d] }
  | _ => none }
def IndexNilWrongFalsely : Prop := indexNilRow.holds Try.pinned (OpenSpec.ofChange indexNilWrong)

/-- 'arbourlaw17.IndexVector': WHATEVER THE INPUT: true; the input reads as it did. -/
def indexVectorSpec : ChangeSpec := { name := "indexVector", fn := fun _ => fun
  | [d] => { results := [.lit (.bool true)], args := [d] }
  | _ => none }
def indexVectorRow : OpenClaim := { program := "ytkkmleglaljacaa", sum := "cf4e28345f8b5c3fcb9f27d33d7f04ac5454e5926f34c170754c1a9e90b407eb", func := "arbour/arbourlaw17.IndexVector", spec := "indexVector", unfollowed := true, recurses := true, apart := false }
def IndexVectorSaid : Prop := indexVectorRow.holds Try.pinned (OpenSpec.ofChange indexVectorSpec)

/-- ITS FALSE NEIGHBOUR: 'it returns false'. Refute it at one input. -/
def indexVectorWrong : ChangeSpec := { name := "indexVector", fn := fun _ => fun
  | [d] => { results := [.lit (.bool false)], args := [d] }
  | _ => none }
def IndexVectorWrongFalsely : Prop := indexVectorRow.holds Try.pinned (OpenSpec.ofChange indexVectorWrong)

/- THE SECOND FORM. 'bulk': how many values and letters a reading holds, each counted each time it is reached (what is shared counts as often as it is met; a slice's spare places count too). A statement '..UptoSaid' is the law's where the arguments, and the package variables that the reading takes, are together of bulk at most 1048576: NARROWER than '..Said'. Prove '..Said' where nothing that the law and all that it calls make is longer than what came in: it says more and counts as full. Else prove '..UptoSaid'. A law counts once. -/
mutual
def uptoBulk {H : Type} : DataW H → Nat
  | .lit (.string bytes) => bytes.length + 1
  | .lit _ => 1
  | .nil => 1
  | .ptr d => uptoBulk d + 1
  | .slice elems spare => uptoBulkAll elems + uptoBulkAll spare + 1
  | .agg parts => uptoBulkAll parts + 1
  | .iface _ d => uptoBulk d + 1
  | .map entries => uptoBulkEntries entries + 1
  | .held _ => 1
def uptoBulkAll {H : Type} : List (DataW H) → Nat
  | [] => 0
  | d :: r => uptoBulk d + uptoBulkAll r
def uptoBulkEntries {H : Type} : List (Lit × DataW H) → Nat
  | [] => 0
  | x :: r => uptoBulkEntry x + uptoBulkEntries r
def uptoBulkEntry {H : Type} : Lit × DataW H → Nat
  | (.string bytes, d) => bytes.length + uptoBulk d + 1
  | (_, d) => uptoBulk d + 1
 end
def uptoSmall : (H : Type) → List (DataW H) → Bool := fun _ ds => decide (uptoBulkAll ds ≤ 1048576)
def OpenSpec.upto (s : _root_.Go.ChangeSpec) : _root_.Go.OpenSpec := { _root_.Go.OpenSpec.ofChange s with cond := some uptoSmall }

/-- 'arbourlaw17.IndexGaps', WHERE WHAT IT READS IS OF BULK AT MOST 1048576: true; the input reads as it did. -/
def indexGapsUptoRow : OpenClaim := { program := "ytkkmleglaljacaa", sum := "cf4e28345f8b5c3fcb9f27d33d7f04ac5454e5926f34c170754c1a9e90b407eb", func := "arbour/arbourlaw17.IndexGaps", spec := "indexGaps", unfollowed := true, recurses := true, apart := false, narrowed := true }
def IndexGapsUptoSaid : Prop := indexGapsUptoRow.holds Try.pinned (OpenSpec.upto indexGapsSpec)

/-- 'arbourlaw17.IndexSame', WHERE WHAT IT READS IS OF BULK AT MOST 1048576: true; the input reads as it did. -/
def indexSameUptoRow : OpenClaim := { program := "ytkkmleglaljacaa", sum := "cf4e28345f8b5c3fcb9f27d33d7f04ac5454e5926f34c170754c1a9e90b407eb", func := "arbour/arbourlaw17.IndexSame", spec := "indexSame", unfollowed := true, recurses := true, apart := false, narrowed := true }
def IndexSameUptoSaid : Prop := indexSameUptoRow.holds Try.pinned (OpenSpec.upto indexSameSpec)

/-- 'arbourlaw17.IndexPlays', WHERE WHAT IT READS IS OF BULK AT MOST 1048576: true; the input reads as it did. -/
def indexPlaysUptoRow : OpenClaim := { program := "ytkkmleglaljacaa", sum := "cf4e28345f8b5c3fcb9f27d33d7f04ac5454e5926f34c170754c1a9e90b407eb", func := "arbour/arbourlaw17.IndexPlays", spec := "indexPlays", unfollowed := true, recurses := true, apart := false, narrowed := true }
def IndexPlaysUptoSaid : Prop := indexPlaysUptoRow.holds Try.pinned (OpenSpec.upto indexPlaysSpec)

/-- 'arbourlaw17.IndexHas', WHERE WHAT IT READS IS OF BULK AT MOST 1048576: true; the input reads as it did. -/
def indexHasUptoRow : OpenClaim := { program := "ytkkmleglaljacaa", sum := "cf4e28345f8b5c3fcb9f27d33d7f04ac5454e5926f34c170754c1a9e90b407eb", func := "arbour/arbourlaw17.IndexHas", spec := "indexHas", unfollowed := true, recurses := true, apart := false, narrowed := true }
def IndexHasUptoSaid : Prop := indexHasUptoRow.holds Try.pinned (OpenSpec.upto indexHasSpec)

/-- 'arbourlaw17.IndexNil', WHERE WHAT IT READS IS OF BULK AT MOST 1048576: true; the input reads as it did. -/
def indexNilUptoRow : OpenClaim := { program := "ytkkmleglaljacaa", sum := "cf4e28345f8b5c3fcb9f27d33d7f04ac5454e5926f34c170754c1a9e90b407eb", func := "arbour/arbourlaw17.IndexNil", spec := "indexNil", unfollowed := true, recurses := true, apart := false, narrowed := true }
def IndexNilUptoSaid : Prop := indexNilUptoRow.holds Try.pinned (OpenSpec.upto indexNilSpec)

/-- 'arbourlaw17.IndexVector', WHERE WHAT IT READS IS OF BULK AT MOST 1048576: true; the input reads as it did. -/
def indexVectorUptoRow : OpenClaim := { program := "ytkkmleglaljacaa", sum := "cf4e28345f8b5c3fcb9f27d33d7f04ac5454e5926f34c170754c1a9e90b407eb", func := "arbour/arbourlaw17.IndexVector", spec := "indexVector", unfollowed := true, recurses := true, apart := false, narrowed := true }
def IndexVectorUptoSaid : Prop := indexVectorUptoRow.holds Try.pinned (OpenSpec.upto indexVectorSpec)

end Rows
end Go.Proofs.Ytkkmleglaljacaa
