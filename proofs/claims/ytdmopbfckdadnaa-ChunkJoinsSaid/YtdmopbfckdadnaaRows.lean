/-
  No cell of these rows narrows 'for every input' (looked for: loops, veiled, ifaces, maps, wideKeys, modest, calm, conditions, laid).
  DERIVED. THE GIVEN ROWS OF THIS SEAT. 5 by the template 'for every input the law returns true; each argument reads behind the call as it read before'; 0 by the template 'total and deterministic' (their statements: YtdmopbfckdadnaaTotals.lean).
  GIVEN WITH THE SEED: the statements are not yours to turn. If you find one false, say at which input.
  Laid BY PROGRAM, IN A SANDBOX (cutbox-rows.mjs): the forced cells as the released guide's own fill.sh prints them over the translation 688a742df59b1900… (all of the seat's roots in one cut). By AI agents, Wed Nov 11 2026. No macro, syntax, notation, axiom, sorry.
-/
import Derived.Test.YtdmopbfckdadnaaChecked
import GoSem.Claim
import GoSem.ClaimJoined
import GoSem.ClaimMapViews
import Derived.JoinedTies
import Derived.KernelRfl
namespace Go.Proofs.Ytdmopbfckdadnaa
/- THE CELL 'sum', in the pinned program and in every row, IS THE sha256 OF THE DUMP (.gsa) THAT YtdmopbfckdadnaaProg.lean LOADS. Nothing in Lean hashes anything: it is a label: what it is worth is what the hold of that sum in a sandbox is worth. -/
noncomputable def Try.pinned : Pinned := { name := "ytdmopbfckdadnaa", sum := "688a742df59b190017a9b2230cb45c2ddd2d6ca740ae930369edf47bfe2ef559", checked := Try.checked }
namespace Rows
def none {H : Type} : Left H := { results := [], args := [] }

/-- 'arbourlaw13.ChunkCuts': WHATEVER THE INPUT: true; the input reads as it did. -/
def chunkCutsSpec : ChangeSpec := { name := "chunkCuts", fn := fun _ => fun
  | [d] => { results := [.lit (.bool true)], args := [d] }
  | _ => none }
def chunkCutsRow : OpenClaim := { program := "ytdmopbfckdadnaa", sum := "688a742df59b190017a9b2230cb45c2ddd2d6ca740ae930369edf47bfe2ef559", func := "arbour/arbourlaw13.ChunkCuts", spec := "chunkCuts", inPlace := ["internal/abi.NoEscape"], unfollowed := true, recurses := true, apart := false }
def ChunkCutsSaid : Prop := chunkCutsRow.holds Try.pinned (OpenSpec.ofChange chunkCutsSpec)

/-- ITS FALSE NEIGHBOUR: 'it returns false'. Refute it at one input. -/
def chunkCutsWrong : ChangeSpec := { name := "chunkCuts", fn := fun _ => fun
  | [d] => { results := [.lit (.bool false)], args := [d] }
  | _ => none }
def ChunkCutsWrongFalsely : Prop := chunkCutsRow.holds Try.pinned (OpenSpec.ofChange chunkCutsWrong)

/-- 'arbourlaw13.ChunkKeys': WHATEVER THE INPUT: true; the input reads as it did. -/
def chunkKeysSpec : ChangeSpec := { name := "chunkKeys", fn := fun _ => fun
  | [d] => { results := [.lit (.bool true)], args := [d] }
  | _ => none }
def chunkKeysRow : OpenClaim := { program := "ytdmopbfckdadnaa", sum := "688a742df59b190017a9b2230cb45c2ddd2d6ca740ae930369edf47bfe2ef559", func := "arbour/arbourlaw13.ChunkKeys", spec := "chunkKeys", inPlace := ["internal/abi.NoEscape"], unfollowed := true, recurses := true, apart := false }
def ChunkKeysSaid : Prop := chunkKeysRow.holds Try.pinned (OpenSpec.ofChange chunkKeysSpec)

/-- ITS FALSE NEIGHBOUR: 'it returns false'. Refute it at one input. -/
def chunkKeysWrong : ChangeSpec := { name := "chunkKeys", fn := fun _ => fun
  | [d] => { results := [.lit (.bool false)], args := [d] }
  | _ => none }
def ChunkKeysWrongFalsely : Prop := chunkKeysRow.holds Try.pinned (OpenSpec.ofChange chunkKeysWrong)

/-- 'arbourlaw13.ChunkWhole': WHATEVER THE INPUT: true; the input reads as it did. -/
def chunkWholeSpec : ChangeSpec := { name := "chunkWhole", fn := fun _ => fun
  | [d] => { results := [.lit (.bool true)], args := [d] }
  | _ => none }
def chunkWholeRow : OpenClaim := { program := "ytdmopbfckdadnaa", sum := "688a742df59b190017a9b2230cb45c2ddd2d6ca740ae930369edf47bfe2ef559", func := "arbour/arbourlaw13.ChunkWhole", spec := "chunkWhole", inPlace := ["internal/abi.NoEscape"], unfollowed := true, recurses := true, apart := false }
def ChunkWholeSaid : Prop := chunkWholeRow.holds Try.pinned (OpenSpec.ofChange chunkWholeSpec)

/-- ITS FALSE NEIGHBOUR: 'it returns false'. Refute it at one input. -/
def chunkWholeWrong : ChangeSpec := { name := "chunkWhole", fn := fun _ => fun
  | [d] => { results := [.lit (.bool false)], args := [d] }
  | _ => none }
def ChunkWholeWrongFalsely : Prop := chunkWholeRow.holds Try.pinned (OpenSpec.ofChange chunkWholeWrong)

/-- 'arbourlaw13.ChunkMany': WHATEVER THE INPUT: true; the input reads as it did. -/
def chunkManySpec : ChangeSpec := { name := "chunkMany", fn := fun _ => fun
  | [d] => { results := [.lit (.bool true)], args := [d] }
  | _ => none }
def chunkManyRow : OpenClaim := { program := "ytdmopbfckdadnaa", sum := "688a742df59b190017a9b2230cb45c2ddd2d6ca740ae930369edf47bfe2ef559", func := "arbour/arbourlaw13.ChunkMany", spec := "chunkMany", inPlace := ["internal/abi.NoEscape"], unfollowed := true, recurses := true, apart := false }
def ChunkManySaid : Prop := chunkManyRow.holds Try.pinned (OpenSpec.ofChange chunkManySpec)

/-- ITS FALSE NEIGHBOUR: 'it returns false'. Refute it at one input. -/
def chunkManyWrong : ChangeSpec := { name := "chunkMany", fn := fun _ => fun
  | [d] => { results := [.lit (.bool false)], args := [d] }
  | _ => none }
def ChunkManyWrongFalsely : Prop := chunkManyRow.holds Try.pinned (OpenSpec.ofChange chunkManyWrong)

/-- 'arbourlaw13.ChunkJoins': WHATEVER THE INPUT: true; the input reads as it did. -/
def chunkJoinsSpec : ChangeSpec := { name := "chunkJoins", fn := fun _ => fun
  | [d1, d2] => { results := [.lit (.bool true)], args := [d1, d2] }
  | _ => none }
def chunkJoinsRow : OpenClaim := { program := "ytdmopbfckdadnaa", sum := "688a742df59b190017a9b2230cb45c2ddd2d6ca740ae930369edf47bfe2ef559", func := "arbour/arbourlaw13.ChunkJoins", spec := "chunkJoins", inPlace := ["internal/abi.NoEscape"], unfollowed := true, recurses := true, apart := false }
def ChunkJoinsSaid : Prop := chunkJoinsRow.holds Try.pinned (OpenSpec.ofChange chunkJoinsSpec)

/-- ITS FALSE NEIGHBOUR: 'it returns false'. Refute it at one input. -/
def chunkJoinsWrong : ChangeSpec := { name := "chunkJoins", fn := fun _ => fun
  | [d1, d2] => { results := [.lit (.bool false)], args := [d1, d2] }
  | _ => none }
def ChunkJoinsWrongFalsely : Prop := chunkJoinsRow.holds Try.pinned (OpenSpec.ofChange chunkJoinsWrong)

/- THE SECOND FORM. 'bulk': how many values and letters a reading holds, each counted each time it is reached (what is shared counts as often as it is met; a slice's spare places count too). A statement '..UptoSaid' is the law's where the arguments, and the package variables that the reading takes, are together of bulk at most 1048576: NARROWER than '..Said'. Prove '..Said' where nothing that the law and all that it calls make is longer than what came in: it says more and counts as full. Else prove '..UptoSaid'. A law counts once. -/
mutual
def uptoBulk {H : Type} : DataW H → Nat
  | .lit (.string bytes) => bytes.length + 1
  | .lit _ => 1
  | .nil => 1
  | .ptr d => uptoBulk d + 1
  | .slice elems spare => uptoBulkAll elems + uptoBulkAll spare + 1
  | .agg parts => uptoBulkAll parts + 1
  | .iface _ d => uptoBulk d + 1
  | .map entries => uptoBulkEntries entries + 1
  | .held _ => 1
def uptoBulkAll {H : Type} : List (DataW H) → Nat
  | [] => 0
  | d :: r => uptoBulk d + uptoBulkAll r
def uptoBulkEntries {H : Type} : List (Lit × DataW H) → Nat
  | [] => 0
  | x :: r => uptoBulkEntry x + uptoBulkEntries r
def uptoBulkEntry {H : Type} : Lit × DataW H → Nat
  | (.string bytes, d) => bytes.length + uptoBulk d + 1
  | (_, d) => uptoBulk d + 1
 end
def uptoSmall : (H : Type) → List (DataW H) → Bool := fun _ ds => decide (uptoBulkAll ds ≤ 1048576)
def OpenSpec.upto (s : _root_.Go.ChangeSpec) : _root_.Go.OpenSpec := { _root_.Go.OpenSpec.ofChange s with cond := some uptoSmall }

/-- 'arbourlaw13.ChunkCuts', WHERE WHAT IT READS IS OF BULK AT MOST 1048576: true; the input reads as it did. -/
def chunkCutsUptoRow : OpenClaim := { program := "ytdmopbfckdadnaa", sum := "688a742df59b190017a9b2230cb45c2ddd2d6ca740ae930369edf47bfe2ef559", func := "arbour/arbourlaw13.ChunkCuts", spec := "chunkCuts", inPlace := ["internal/abi.NoEscape"], unfollowed := true, recurses := true, apart := false, narrowed := true }
def ChunkCutsUptoSaid : Prop := chunkCutsUptoRow.holds Try.pinned (OpenSpec.upto chunkCutsSpec)

/-- 'arbourlaw13.ChunkKeys', WHERE WHAT IT READS IS OF BULK AT MOST 1048576: true; the input reads as it did. -/
def chunkKeysUptoRow : OpenClaim := { program := "ytdmopbfckdadnaa", sum := "688a742df59b190017a9b2230cb45c2ddd2d6ca740ae930369edf47bfe2ef559", func := "arbour/arbourlaw13.ChunkKeys", spec := "chunkKeys", inPlace := ["internal/abi.NoEscape"], unfollowed := true, recurses := true, apart := false, narrowed := true }
def ChunkKeysUptoSaid : Prop := chunkKeysUptoRow.holds Try.pinned (OpenSpec.upto chunkKeysSpec)

/-- 'arbourlaw13.ChunkWhole', WHERE WHAT IT READS IS OF BULK AT MOST 1048576: true; the input reads as it did. -/
def chunkWholeUptoRow : OpenClaim := { program := "ytdmopbfckdadnaa", sum := "688a742df59b190017a9b2230cb45c2ddd2d6ca740ae930369edf47bfe2ef559", func := "arbour/arbourlaw13.ChunkWhole", spec := "chunkWhole", inPlace := ["internal/abi.NoEscape"], unfollowed := true, recurses := true, apart := false, narrowed := true }
def ChunkWholeUptoSaid : Prop := chunkWholeUptoRow.holds Try.pinned (OpenSpec.upto chunkWholeSpec)

/-- 'arbourlaw13.ChunkMany', WHERE WHAT IT READS IS OF BULK AT MOST 1048576: true; the input reads as it did. -/
def chunkManyUptoRow : OpenClaim := { program := "ytdmopbfckdadnaa", sum := "688a742df59b190017a9b2230cb45c2ddd2d6ca740ae930369edf47bfe2ef559", func := "arbour/arbourlaw13.ChunkMany", spec := "chunkMany", inPlace := ["internal/abi.NoEscape"], unfollowed := true, recurses := true, apart := false, narrowed := true }
def ChunkManyUptoSaid : Prop := chunkManyUptoRow.holds Try.pinned (OpenSpec.upto chunkManySpec)

/-- 'arbourlaw13.ChunkJoins', WHERE WHAT IT READS IS OF BULK AT MOST 1048576: true; the input reads as it did. -/
def chunkJoinsUptoRow : OpenClaim := { program := "ytdmopbfckdadnaa", sum := "688a742df59b190017a9b2230cb45c2ddd2d6ca740ae930369edf47bfe2ef559", func := "arbour/arbourlaw13.ChunkJoins", spec := "chunkJoins", inPlace := ["internal/abi.NoEscape"], unfollowed := true, recurses := true, apart := false, narrowed := true }
def ChunkJoinsUptoSaid : Prop := chunkJoinsUptoRow.holds Try.pinned (OpenSpec.upto chunkJoinsSpec)

end Rows
end Go.Proofs.Ytdmopbfckdadnaa
