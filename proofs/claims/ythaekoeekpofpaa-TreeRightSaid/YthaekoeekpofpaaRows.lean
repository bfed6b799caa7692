/-
  No cell of these rows narrows 'for every input' (looked for: loops, veiled, ifaces, maps, wideKeys, modest, calm, conditions, laid).
  DERIVED. THE GIVEN ROWS OF THIS SEAT. 8 by the template 'for every input the law returns true; each argument reads behind the call as it read before'; 0 by the template 'total and deterministic' (their statements: YthaekoeekpofpaaTotals.lean).
  GIVEN WITH THE SEED: the statements are not yours to turn. If you find one false, say at which input.
  Laid BY PROGRAM, IN A SANDBOX (cutbox-rows.mjs): the forced cells as the released guide's own fill.sh prints them over the translation 58ddf3e41d7da9dd… (all of the seat's roots in one cut). By AI agents, Wed Nov 11 2026. No macro, syntax, notation, axiom, sorry.
-/
import Derived.Test.YthaekoeekpofpaaChecked
import GoSem.Claim
import GoSem.ClaimJoined
import GoSem.ClaimMapViews
import Derived.JoinedTies
import Derived.KernelRfl
namespace Go.Proofs.Ythaekoeekpofpaa
/- THE CELL 'sum', in the pinned program and in every row, IS THE sha256 OF THE DUMP (.gsa) THAT YthaekoeekpofpaaProg.lean LOADS. Nothing in Lean hashes anything: it is a label: what it is worth is what the hold of that sum in a sandbox is worth. -/
noncomputable def Try.pinned : Pinned := { name := "ythaekoeekpofpaa", sum := "58ddf3e41d7da9dd4eecdacc8542ec3eeb98ea161cda43a980d6b0262d8f61ee", checked := Try.checked }
namespace Rows
def none {H : Type} : Left H := { results := [], args := [] }

/-- 'arbourlaw07.TreeFolds': WHATEVER THE INPUT: true; the input reads as it did. -/
def treeFoldsSpec : ChangeSpec := { name := "treeFolds", fn := fun _ => fun
  | [d] => { results := [.lit (.bool true)], args := [d] }
  | _ => none }
def treeFoldsRow : OpenClaim := { program := "ythaekoeekpofpaa", sum := "58ddf3e41d7da9dd4eecdacc8542ec3eeb98ea161cda43a980d6b0262d8f61ee", func := "arbour/arbourlaw07.TreeFolds", spec := "treeFolds", inPlace := ["slices.overlaps[arbour/api.Node]"], unfollowed := true, recurses := true, plainKeys := false, apart := false }
def TreeFoldsSaid : Prop := treeFoldsRow.holds Try.pinned (OpenSpec.ofChange treeFoldsSpec)

/-- ITS FALSE NEIGHBOUR: 'it returns false'. Refute it at one input. -/
def treeFoldsWrong : ChangeSpec := { name := "treeFolds", fn := fun _ => fun
  | [d] => { results := [.lit (.bool false)], args := [d] }
  | _ => none }
def TreeFoldsWrongFalsely : Prop := treeFoldsRow.holds Try.pinned (OpenSpec.ofChange treeFoldsWrong)

/-- 'arbourlaw07.TreeDoes': WHATEVER THE INPUT: true; the input reads as it did. -/
def treeDoesSpec : ChangeSpec := { name := "treeDoes", fn := fun _ => fun
  | [d1, d2] => { results := [.lit (.bool true)], args := [d1, d2] }
  | _ => none }
def treeDoesRow : OpenClaim := { program := "ythaekoeekpofpaa", sum := "58ddf3e41d7da9dd4eecdacc8542ec3eeb98ea161cda43a980d6b0262d8f61ee", func := "arbour/arbourlaw07.TreeDoes", spec := "treeDoes", inPlace := ["slices.overlaps[arbour/api.Node]"], unfollowed := true, recurses := true, plainKeys := false, apart := false }
def TreeDoesSaid : Prop := treeDoesRow.holds Try.pinned (OpenSpec.ofChange treeDoesSpec)

/-- ITS FALSE NEIGHBOUR: 'it returns false'. Refute it at one input. -/
def treeDoesWrong : ChangeSpec := { name := "treeDoes", fn := fun _ => fun
  | [d1, d2] => { results := [.lit (.bool false)], args := [d1, d2] }
  | _ => none }
def TreeDoesWrongFalsely : Prop := treeDoesRow.holds Try.pinned (OpenSpec.ofChange treeDoesWrong)

/-- 'arbourlaw07.TreeStays': WHATEVER THE INPUT: true; the input reads as it did. -/
def treeStaysSpec : ChangeSpec := { name := "treeStays", fn := fun _ => fun
  | [d] => { results := [.lit (.bool true)], args := [d] }
  | _ => none }
def treeStaysRow : OpenClaim := { program := "ythaekoeekpofpaa", sum := "58ddf3e41d7da9dd4eecdacc8542ec3eeb98ea161cda43a980d6b0262d8f61ee", func := "arbour/arbourlaw07.TreeStays", spec := "treeStays", inPlace := ["slices.overlaps[arbour/api.Node]"], unfollowed := true, recurses := true, plainKeys := false, apart := false }
def TreeStaysSaid : Prop := treeStaysRow.holds Try.pinned (OpenSpec.ofChange treeStaysSpec)

/-- ITS FALSE NEIGHBOUR: 'it returns false'. Refute it at one input. -/
def treeStaysWrong : ChangeSpec := { name := "treeStays", fn := fun _ => fun
  | [d] => { results := [.lit (.bool false)], args := [d] }
  | _ => none }
def TreeStaysWrongFalsely : Prop := treeStaysRow.holds Try.pinned (OpenSpec.ofChange treeStaysWrong)

/-- 'arbourlaw07.TreeFind': WHATEVER THE INPUT: true; the input reads as it did. -/
def treeFindSpec : ChangeSpec := { name := "treeFind", fn := fun _ => fun
  | [d1, d2] => { results := [.lit (.bool true)], args := [d1, d2] }
  | _ => none }
def treeFindRow : OpenClaim := { program := "ythaekoeekpofpaa", sum := "58ddf3e41d7da9dd4eecdacc8542ec3eeb98ea161cda43a980d6b0262d8f61ee", func := "arbour/arbourlaw07.TreeFind", spec := "treeFind", inPlace := ["slices.overlaps[arbour/api.Node]"], unfollowed := true, recurses := true, plainKeys := false, apart := false }
def TreeFindSaid : Prop := treeFindRow.holds Try.pinned (OpenSpec.ofChange treeFindSpec)

/-- ITS FALSE NEIGHBOUR: 'it returns false'. Refute it at one input. -/
def treeFindWrong : ChangeSpec := { name := "treeFind", fn := fun _ => fun
  | [d1, d2] => { results := [.lit (.bool false)], args := [d1, d2] }
  | _ => none }
def TreeFindWrongFalsely : Prop := treeFindRow.holds Try.pinned (OpenSpec.ofChange treeFindWrong)

/-- 'arbourlaw07.TreeRight': WHATEVER THE INPUT: true; the input reads as it did. -/
def treeRightSpec : ChangeSpec := { name := "treeRight", fn := fun _ => fun
  | [d] => { results := [.lit (.bool true)], args := [d] }
  | _ => none }
def treeRightRow : OpenClaim := { program := "ythaekoeekpofpaa", sum := "58ddf3e41d7da9dd4eecdacc8542ec3eeb98ea161cda43a980d6b0262d8f61ee", func := "arbour/arbourlaw07.TreeRight", spec := "treeRight", inPlace := ["slices.overlaps[arbour/api.Node]"], unfollowed := true, recurses := true, plainKeys := false, apart := false }
def TreeRightSaid : Prop := treeRightRow.holds Try.pinned (OpenSpec.ofChange treeRightSpec)

/-- ITS FALSE NEIGHBOUR: 'it returns false'. Refute it at one input. -/
def treeRightWrong : ChangeSpec := { name := "treeRight", fn := fun _ => fun
  | [d] => { results := [.lit (.bool false)], args := [d] }
  | _ => none }
def TreeRightWrongFalsely : Prop := treeRightRow.holds Try.pinned (OpenSpec.ofChange treeRightWrong)

/-- 'arbourlaw07.TreeLast': WHATEVER THE INPUT: true; the input reads as it did. -/
def treeLastSpec : ChangeSpec := { name := "treeLast", fn := fun _ => fun
  | [d1, d2] => { results := [.lit (.bool true)], args := [d1, d2] }
  | _ => none }
def treeLastRow : OpenClaim := { program := "ythaekoeekpofpaa", sum := "58ddf3e41d7da9dd4eecdacc8542ec3eeb98ea161cda43a980d6b0262d8f61ee", func := "arbour/arbourlaw07.TreeLast", spec := "treeLast", inPlace := ["slices.overlaps[arbour/api.Node]"], unfollowed := true, recurses := true, plainKeys := false, apart := false }
def TreeLastSaid : Prop := treeLastRow.holds Try.pinned (OpenSpec.ofChange treeLastSpec)

/-- ITS FALSE NEIGHBOUR: 'it returns false'. Refute it at one input. -/
def treeLastWrong : ChangeSpec := { name := "treeLast", fn := fun _ => fun
  | [d1, d2] => { results := [.lit (.bool false)], args := [d1, d2] }
  | _ => none }
def TreeLastWrongFalsely : Prop := treeLastRow.holds Try.pinned (OpenSpec.ofChange treeLastWrong)

/-- 'arbourlaw07.TreeChains': WHATEVER THE INPUT: true; the input reads as it did. -/
def treeChainsSpec : ChangeSpec := { name := "treeChains", fn := fun _ => fun
  | [d1, d2] => { results := [.lit (.bool true)], args := [d1, d2] }
  | _ => none }
def treeChainsRow : OpenClaim := { program := "ythaekoeekpofpaa", sum := "58ddf3e41d7da9dd4eecdacc8542ec3eeb98ea161cda43a980d6b0262d8f61ee", func := "arbour/arbourlaw07.TreeChains", spec := "treeChains", inPlace := ["slices.overlaps[arbour/api.Node]"], unfollowed := true, recurses := true, plainKeys := false, apart := false }
def TreeChainsSaid : Prop := treeChainsRow.holds Try.pinned (OpenSpec.ofChange treeChainsSpec)

/-- ITS FALSE NEIGHBOUR: 'it returns false'. Refute it at one input. -/
def treeChainsWrong : ChangeSpec := { name := "treeChains", fn := fun _ => fun
  | [d1, d2] => { results := [.lit (.bool false)], args := [d1, d2] }
  | _ => none }
def TreeChainsWrongFalsely : Prop := treeChainsRow.holds Try.pinned (OpenSpec.ofChange treeChainsWrong)

/-- 'arbourlaw07.TreeChildren': WHATEVER THE INPUT: true; the input reads as it did. -/
def treeChildrenSpec : ChangeSpec := { name := "treeChildren", fn := fun _ => fun
  | [d1, d2] => { results := [.lit (.bool true)], args := [d1, d2] }
  | _ => none }
def treeChildrenRow : OpenClaim := { program := "ythaekoeekpofpaa", sum := "58ddf3e41d7da9dd4eecdacc8542ec3eeb98ea161cda43a980d6b0262d8f61ee", func := "arbour/arbourlaw07.TreeChildren", spec := "treeChildren", inPlace := ["slices.overlaps[arbour/api.Node]"], unfollowed := true, recurses := true, plainKeys := false, apart := false }
def TreeChildrenSaid : Prop := treeChildrenRow.holds Try.pinned (OpenSpec.ofChange treeChildrenSpec)

/-- ITS FALSE NEIGHBOUR: 'it returns false'. Refute it at one input. -/
def treeChildrenWrong : ChangeSpec := { name := "treeChildren", fn := fun _ => fun
  | [d1, d2] => { results := [.lit (.bool false)], args := [d1, d2] }
  | _ => none }
def TreeChildrenWrongFalsely : Prop := treeChildrenRow.holds Try.pinned (OpenSpec.ofChange treeChildrenWrong)

/- THE SECOND FORM. 'bulk': how many values and letters a reading holds, each counted each time it is reached (what is shared counts as often as it is met; a slice's spare places count too). A statement '..UptoSaid' is the law's where the arguments, and the package variables that the reading takes, are together of bulk at most 1048576: NARROWER than '..Said'. Prove '..Said' where nothing that the law and all that it calls make is longer than what came in: it says more and counts as full. Else prove '..UptoSaid'. A law counts once. -/
mutual
def uptoBulk {H : Type} : DataW H → Nat
  | .lit (.string bytes) => bytes.length + 1
  | .lit _ => 1
  | .nil => 1
  | .ptr d => uptoBulk d + 1
  | .slice elems spare => uptoBulkAll elems + uptoBulkAll spare + 1
  | .agg parts => uptoBulkAll parts + 1
  | .iface _ d => uptoBulk d + 1
  | .map entries => uptoBulkEntries entries + 1
  | .held _ => 1
def uptoBulkAll {H : Type} : List (DataW H) → Nat
  | [] => 0
  | d :: r => uptoBulk d + uptoBulkAll r
def uptoBulkEntries {H : Type} : List (Lit × DataW H) → Nat
  | [] => 0
  | x :: r => uptoBulkEntry x + uptoBulkEntries r
def uptoBulkEntry {H : Type} : Lit × DataW H → Nat
  | (.string bytes, d) => bytes.length + uptoBulk d + 1
  | (_, d) => uptoBulk d + 1
 end
def uptoSmall : (H : Type) → List (DataW H) → Bool := fun _ ds => decide (uptoBulkAll ds ≤ 1048576)
def OpenSpec.upto (s : _root_.Go.ChangeSpec) : _root_.Go.OpenSpec := { _root_.Go.OpenSpec.ofChange s with cond := some uptoSmall }

/-- 'arbourlaw07.TreeFolds', WHERE WHAT IT READS IS OF BULK AT MOST 1048576: true; the input reads as it did. -/
def treeFoldsUptoRow : OpenClaim := { program := "ythaekoeekpofpaa", sum := "58ddf3e41d7da9dd4eecdacc8542ec3eeb98ea161cda43a980d6b0262d8f61ee", func := "arbour/arbourlaw07.TreeFolds", spec := "treeFolds", inPlace := ["slices.overlaps[arbour/api.Node]"], unfollowed := true, recurses := true, plainKeys := false, apart := false, narrowed := true }
def TreeFoldsUptoSaid : Prop := treeFoldsUptoRow.holds Try.pinned (OpenSpec.upto treeFoldsSpec)

/-- 'arbourlaw07.TreeDoes', WHERE WHAT IT READS IS OF BULK AT MOST 1048576: true; the input reads as it did. -/
def treeDoesUptoRow : OpenClaim := { program := "ythaekoeekpofpaa", sum := "58ddf3e41d7da9dd4eecdacc8542ec3eeb98ea161cda43a980d6b0262d8f61ee", func := "arbour/arbourlaw07.TreeDoes", spec := "treeDoes", inPlace := ["slices.overlaps[arbour/api.Node]"], unfollowed := true, recurses := true, plainKeys := false, apart := false, narrowed := true }
def TreeDoesUptoSaid : Prop := treeDoesUptoRow.holds Try.pinned (OpenSpec.upto treeDoesSpec)

/-- 'arbourlaw07.TreeStays', WHERE WHAT IT READS IS OF BULK AT MOST 1048576: true; the input reads as it did. -/
def treeStaysUptoRow : OpenClaim := { program := "ythaekoeekpofpaa", sum := "58ddf3e41d7da9dd4eecdacc8542ec3eeb98ea161cda43a980d6b0262d8f61ee", func := "arbour/arbourlaw07.TreeStays", spec := "treeStays", inPlace := ["slices.overlaps[arbour/api.Node]"], unfollowed := true, recurses := true, plainKeys := false, apart := false, narrowed := true }
def TreeStaysUptoSaid : Prop := treeStaysUptoRow.holds Try.pinned (OpenSpec.upto treeStaysSpec)

/-- 'arbourlaw07.TreeFind', WHERE WHAT IT READS IS OF BULK AT MOST 1048576: true; the input reads as it did. -/
def treeFindUptoRow : OpenClaim := { program := "ythaekoeekpofpaa", sum := "58ddf3e41d7da9dd4eecdacc8542ec3eeb98ea161cda43a980d6b0262d8f61ee", func := "arbour/arbourlaw07.TreeFind", spec := "treeFind", inPlace := ["slices.overlaps[arbour/api.Node]"], unfollowed := true, recurses := true, plainKeys := false, apart := false, narrowed := true }
def TreeFindUptoSaid : Prop := treeFindUptoRow.holds Try.pinned (OpenSpec.upto treeFindSpec)

/-- 'arbourlaw07.TreeRight', WHERE WHAT IT READS IS OF BULK AT MOST 1048576: true; the input reads as it did. -/
def treeRightUptoRow : OpenClaim := { program := "ythaekoeekpofpaa", sum := "58ddf3e41d7da9dd4eecdacc8542ec3eeb98ea161cda43a980d6b0262d8f61ee", func := "arbour/arbourlaw07.TreeRight", spec := "treeRight", inPlace := ["slices.overlaps[arbour/api.Node]"], unfollowed := true, recurses := true, plainKeys := false, apart := false, narrowed := true }
def TreeRightUptoSaid : Prop := treeRightUptoRow.holds Try.pinned (OpenSpec.upto treeRightSpec)

/-- 'arbourlaw07.TreeLast', WHERE WHAT IT READS IS OF BULK AT MOST 1048576: true; the input reads as it did. -/
def treeLastUptoRow : OpenClaim := { program := "ythaekoeekpofpaa", sum := "58ddf3e41d7da9dd4eecdacc8542ec3eeb98ea161cda43a980d6b0262d8f61ee", func := "arbour/arbourlaw07.TreeLast", spec := "treeLast", inPlace := ["slices.overlaps[arbour/api.Node]"], unfollowed := true, recurses := true, plainKeys := false, apart := false, narrowed := true }
def TreeLastUptoSaid : Prop := treeLastUptoRow.holds Try.pinned (OpenSpec.upto treeLastSpec)

/-- 'arbourlaw07.TreeChains', WHERE WHAT IT READS IS OF BULK AT MOST 1048576: true; the input reads as it did. -/
def treeChainsUptoRow : OpenClaim := { program := "ythaekoeekpofpaa", sum := "58ddf3e41d7da9dd4eecdacc8542ec3eeb98ea161cda43a980d6b0262d8f61ee", func := "arbour/arbourlaw07.TreeChains", spec := "treeChains", inPlace := ["slices.overlaps[arbour/api.Node]"], unfollowed := true, recurses := true, plainKeys := false, apart := false, narrowed := true }
def TreeChainsUptoSaid : Prop := treeChainsUptoRow.holds Try.pinned (OpenSpec.upto treeChainsSpec)

/-- 'arbourlaw07.TreeChildren', WHERE WHAT IT READS IS OF BULK AT MOST 1048576: true; the input reads as it did. -/
def treeChildrenUptoRow : OpenClaim := { program := "ythaekoeekpofpaa", sum := "58ddf3e41d7da9dd4eecdacc8542ec3eeb98ea161cda43a980d6b0262d8f61ee", func := "arbour/arbourlaw07.TreeChildren", spec := "treeChildren", inPlace := ["slices.overlaps[arbour/api.Node]"], unfollowed := true, recurses := true, plainKeys := false, apart := false, narrowed := true }
def TreeChildrenUptoSaid : Prop := treeChildrenUptoRow.holds Try.pinned (OpenSpec.upto treeChildrenSpec)

end Rows
end Go.Proofs.Ythaekoeekpofpaa
