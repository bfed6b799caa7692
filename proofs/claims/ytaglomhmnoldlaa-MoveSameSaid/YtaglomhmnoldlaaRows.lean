/-
  No cell of these rows narrows 'for every input' (looked for: loops, veiled, ifaces, maps, wideKeys, modest, calm, conditions, laid).
  DERIVED. THE GIVEN ROWS OF THIS SEAT. 6 by the template 'for every input the law returns true; each argument reads behind the call as it read before'; 0 by the template 'total and deterministic' (their statements: YtaglomhmnoldlaaTotals.lean).
  GIVEN WITH THE SEED: the statements are not yours to turn. If you find one false, say at which input.
  Laid BY PROGRAM, IN A SANDBOX (cutbox-rows.mjs): the forced cells as the released guide's own fill.sh prints them over the translation 862995d125f77698… (all of the seat's roots in one cut). By AI agents, Wed Nov 11 2026. No macro, syntax, notation, axiom, sorry.
-/
import Derived.Test.YtaglomhmnoldlaaChecked
import GoSem.Claim
import GoSem.ClaimJoined
import GoSem.ClaimMapViews
import Derived.JoinedTies
import Derived.KernelRfl
namespace Go.Proofs.Ytaglomhmnoldlaa
/- THE CELL 'sum', in the pinned program and in every row, IS THE sha256 OF THE DUMP (.gsa) THAT YtaglomhmnoldlaaProg.lean LOADS. Nothing in Lean hashes anything: it is a label: what it is worth is what the hold of that sum in a sandbox is worth. -/
noncomputable def Try.pinned : Pinned := { name := "ytaglomhmnoldlaa", sum := "862995d125f776989e142824ada4a7e1d08cbbee2dcb2f0f47a8c31c624a6306", checked := Try.checked }
namespace Rows
def none {H : Type} : Left H := { results := [], args := [] }

/-- 'arbourlaw08.MoveRedoes': WHATEVER THE INPUT: true; the input reads as it did. -/
def moveRedoesSpec : ChangeSpec := { name := "moveRedoes", fn := fun _ => fun
  | [d] => { results := [.lit (.bool true)], args := [d] }
  | _ => none }
def moveRedoesRow : OpenClaim := { program := "ytaglomhmnoldlaa", sum := "862995d125f776989e142824ada4a7e1d08cbbee2dcb2f0f47a8c31c624a6306", func := "arbour/arbourlaw08.MoveRedoes", spec := "moveRedoes", inPlace := ["slices.overlaps[arbour/move.done]"], unfollowed := true, recurses := true, plainKeys := false, apart := false }
def MoveRedoesSaid : Prop := moveRedoesRow.holds Try.pinned (OpenSpec.ofChange moveRedoesSpec)

/-- ITS FALSE NEIGHBOUR: 'it returns false'. Refute it at one input. -/
def moveRedoesWrong : ChangeSpec := { name := "moveRedoes", fn := fun _ => fun
  | [d] => { results := [.lit (.bool false)], args := [d] }
  | _ => none }
def MoveRedoesWrongFalsely : Prop := moveRedoesRow.holds Try.pinned (OpenSpec.ofChange moveRedoesWrong)

/-- 'arbourlaw08.MoveTwice': WHATEVER THE INPUT: true; the input reads as it did. -/
def moveTwiceSpec : ChangeSpec := { name := "moveTwice", fn := fun _ => fun
  | [d1, d2] => { results := [.lit (.bool true)], args := [d1, d2] }
  | _ => none }
def moveTwiceRow : OpenClaim := { program := "ytaglomhmnoldlaa", sum := "862995d125f776989e142824ada4a7e1d08cbbee2dcb2f0f47a8c31c624a6306", func := "arbour/arbourlaw08.MoveTwice", spec := "moveTwice", inPlace := ["slices.overlaps[arbour/move.done]"], unfollowed := true, recurses := true, plainKeys := false, apart := false }
def MoveTwiceSaid : Prop := moveTwiceRow.holds Try.pinned (OpenSpec.ofChange moveTwiceSpec)

/-- ITS FALSE NEIGHBOUR: 'it returns false'. Refute it at one input. -/
def moveTwiceWrong : ChangeSpec := { name := "moveTwice", fn := fun _ => fun
  | [d1, d2] => { results := [.lit (.bool false)], args := [d1, d2] }
  | _ => none }
def MoveTwiceWrongFalsely : Prop := moveTwiceRow.holds Try.pinned (OpenSpec.ofChange moveTwiceWrong)

/-- 'arbourlaw08.MovePlays': WHATEVER THE INPUT: true; the input reads as it did. -/
def movePlaysSpec : ChangeSpec := { name := "movePlays", fn := fun _ => fun
  | [d] => { results := [.lit (.bool true)], args := [d] }
  | _ => none }
def movePlaysRow : OpenClaim := { program := "ytaglomhmnoldlaa", sum := "862995d125f776989e142824ada4a7e1d08cbbee2dcb2f0f47a8c31c624a6306", func := "arbour/arbourlaw08.MovePlays", spec := "movePlays", inPlace := ["slices.overlaps[arbour/move.done]"], unfollowed := true, recurses := true, plainKeys := false, apart := false }
def MovePlaysSaid : Prop := movePlaysRow.holds Try.pinned (OpenSpec.ofChange movePlaysSpec)

/-- ITS FALSE NEIGHBOUR: 'it returns false'. Refute it at one input. -/
def movePlaysWrong : ChangeSpec := { name := "movePlays", fn := fun _ => fun
  | [d] => { results := [.lit (.bool false)], args := [d] }
  | _ => none }
def MovePlaysWrongFalsely : Prop := movePlaysRow.holds Try.pinned (OpenSpec.ofChange movePlaysWrong)

/-- 'arbourlaw08.MoveNil': WHATEVER THE INPUT: true; the input reads as it did. -/
def moveNilSpec : ChangeSpec := { name := "moveNil", fn := fun _ => fun
  | [d] => { results := [.lit (.bool true)], args := [d] }
  | _ => none }
def moveNilRow : OpenClaim := { program := "ytaglomhmnoldlaa", sum := "862995d125f776989e142824ada4a7e1d08cbbee2dcb2f0f47a8c31c624a6306", func := "arbour/arbourlaw08.MoveNil", spec := "moveNil", inPlace := ["slices.overlaps[arbour/move.done]"], unfollowed := true, recurses := true, plainKeys := false, apart := false }
def MoveNilSaid : Prop := moveNilRow.holds Try.pinned (OpenSpec.ofChange moveNilSpec)

/-- ITS FALSE NEIGHBOUR: 'it returns false'. Refute it at one input. -/
def moveNilWrong : ChangeSpec := { name := "moveNil", fn := fun _ => fun
  | [d] => { results := [.lit (.bool false)], args := [d] }
  | _ => none }
def MoveNilWrongFalsely : Prop := moveNilRow.holds Try.pinned (OpenSpec.ofChange moveNilWrong)

/-- 'arbourlaw08.MoveOps': WHATEVER THE INPUT: true; the input reads as it did. -/
def moveOpsSpec : ChangeSpec := { name := "moveOps", fn := fun _ => fun
  | [d] => { results := [.lit (.bool true)], args := [d] }
  | _ => none }
def moveOpsRow : OpenClaim := { program := "ytaglomhmnoldlaa", sum := "862995d125f776989e142824ada4a7e1d08cbbee2dcb2f0f47a8c31c624a6306", func := "arbour/arbourlaw08.MoveOps", spec := "moveOps", inPlace := ["slices.overlaps[arbour/move.done]"], unfollowed := true, recurses := true, plainKeys := false, apart := false }
def MoveOpsSaid : Prop := moveOpsRow.holds Try.pinned (OpenSpec.ofChange moveOpsSpec)

/-- ITS FALSE NEIGHBOUR: 'it returns false'. Refute it at one input. -/
def moveOpsWrong : ChangeSpec := { name := "moveOps", fn := fun _ => fun
  | [d] => { results := [.lit (.bool false)], args := [d] }
  | _ => none }
def MoveOpsWrongFalsely : Prop := moveOpsRow.holds Try.pinned (OpenSpec.ofChange moveOpsWrong)

/-- 'arbourlaw08.MoveSame': WHATEVER THE INPUT: true; the input reads as it did. -/
def moveSameSpec : ChangeSpec := { name := "moveSame", fn := fun _ => fun
  | [d1, d2] => { results := [.lit (.bool true)], args := [d1, d2] }
  | _ => none }
def moveSameRow : OpenClaim := { program := "ytaglomhmnoldlaa", sum := "862995d125f776989e142824ada4a7e1d08cbbee2dcb2f0f47a8c31c624a6306", func := "arbour/arbourlaw08.MoveSame", spec := "moveSame", inPlace := ["slices.overlaps[arbour/move.done]", "slices.overlaps[arbour/api.Node]"], unfollowed := true, recurses := true, plainKeys := false, apart := false }
def MoveSameSaid : Prop := moveSameRow.holds Try.pinned (OpenSpec.ofChange moveSameSpec)

/-- ITS FALSE NEIGHBOUR: 'it returns false'. Refute it at one input. -/
def moveSameWrong : ChangeSpec := { name := "moveSame", fn := fun _ => fun
  | [d1, d2] => { results := [.lit (.bool false)], args := [d1, d2] }
  | _ => none }
def MoveSameWrongFalsely : Prop := moveSameRow.holds Try.pinned (OpenSpec.ofChange moveSameWrong)

/- THE SECOND FORM. 'bulk': how many values and letters a reading holds, each counted each time it is reached (what is shared counts as often as it is met; a slice's spare places count too). A statement '..UptoSaid' is the law's where the arguments, and the package variables that the reading takes, are together of bulk at most 1048576: NARROWER than '..Said'. Prove '..Said' where nothing that the law and all that it calls make is longer than what came in: it says more and counts as full. Else prove '..UptoSaid'. A law counts once. -/
mutual
def uptoBulk {H : Type} : DataW H → Nat
  | .lit (.string bytes) => bytes.length + 1
  | .lit _ => 1
  | .nil => 1
  | .ptr d => uptoBulk d + 1
  | .slice elems spare => uptoBulkAll elems + uptoBulkAll spare + 1
  | .agg parts => uptoBulkAll parts + 1
  | .iface _ d => uptoBulk d + 1
  | .map entries => uptoBulkEntries entries + 1
  | .held _ => 1
def uptoBulkAll {H : Type} : List (DataW H) → Nat
  | [] => 0
  | d :: r => uptoBulk d + uptoBulkAll r
def uptoBulkEntries {H : Type} : List (Lit × DataW H) → Nat
  | [] => 0
  | x :: r => uptoBulkEntry x + uptoBulkEntries r
def uptoBulkEntry {H : Type} : Lit × DataW H → Nat
  | (.string bytes, d) => bytes.length + uptoBulk d + 1
  | (_, d) => uptoBulk d + 1
 end
def uptoSmall : (H : Type) → List (DataW H) → Bool := fun _ ds => decide (uptoBulkAll ds ≤ 1048576)
def OpenSpec.upto (s : _root_.Go.ChangeSpec) : _root_.Go.OpenSpec := { _root_.Go.OpenSpec.ofChange s with cond := some uptoSmall }

/-- 'arbourlaw08.MoveRedoes', WHERE WHAT IT READS IS OF BULK AT MOST 1048576: true; the input reads as it did. -/
def moveRedoesUptoRow : OpenClaim := { program := "ytaglomhmnoldlaa", sum := "862995d125f776989e142824ada4a7e1d08cbbee2dcb2f0f47a8c31c624a6306", func := "arbour/arbourlaw08.MoveRedoes", spec := "moveRedoes", inPlace := ["slices.overlaps[arbour/move.done]"], unfollowed := true, recurses := true, plainKeys := false, apart := false, narrowed := true }
def MoveRedoesUptoSaid : Prop := moveRedoesUptoRow.holds Try.pinned (OpenSpec.upto moveRedoesSpec)

/-- 'arbourlaw08.MoveTwice', WHERE WHAT IT READS IS OF BULK AT MOST 1048576: true; the input reads as it did. -/
def moveTwiceUptoRow : OpenClaim := { program := "ytaglomhmnoldlaa", sum := "862995d125f776989e142824ada4a7e1d08cbbee2dcb2f0f47a8c31c624a6306", func := "arbour/arbourlaw08.MoveTwice", spec := "moveTwice", inPlace := ["slices.overlaps[arbour/move.done]"], unfollowed := true, recurses := true, plainKeys := false, apart := false, narrowed := true }
def MoveTwiceUptoSaid : Prop := moveTwiceUptoRow.holds Try.pinned (OpenSpec.upto moveTwiceSpec)

/-- 'arbourlaw08.MovePlays', WHERE WHAT IT READS IS OF BULK AT MOST 1048576: true; the input reads as it did. -/
def movePlaysUptoRow : OpenClaim := { program := "ytaglomhmnoldlaa", sum := "862995d125f776989e142824ada4a7e1d08cbbee2dcb2f0f47a8c31c624a6306", func := "arbour/arbourlaw08.MovePlays", spec := "movePlays", inPlace := ["slices.overlaps[arbour/move.done]"], unfollowed := true, recurses := true, plainKeys := false, apart := false, narrowed := true }
def MovePlaysUptoSaid : Prop := movePlaysUptoRow.holds Try.pinned (OpenSpec.upto movePlaysSpec)

/-- 'arbourlaw08.MoveNil', WHERE WHAT IT READS IS OF BULK AT MOST 1048576: true; the input reads as it did. -/
def moveNilUptoRow : OpenClaim := { program := "ytaglomhmnoldlaa", sum := "862995d125f776989e142824ada4a7e1d08cbbee2dcb2f0f47a8c31c624a6306", func := "arbour/arbourlaw08.MoveNil", spec := "moveNil", inPlace := ["slices.overlaps[arbour/move.done]"], unfollowed := true, recurses := true, plainKeys := false, apart := false, narrowed := true }
def MoveNilUptoSaid : Prop := moveNilUptoRow.holds Try.pinned (OpenSpec.upto moveNilSpec)

/-- 'arbourlaw08.MoveOps', WHERE WHAT IT READS IS OF BULK AT MOST 1048576: true; the input reads as it did. -/
def moveOpsUptoRow : OpenClaim := { program := "ytaglomhmnoldlaa", sum := "862995d125f776989e142824ada4a7e1d08cbbee2dcb2f0f47a8c31c624a6306", func := "arbour/arbourlaw08.MoveOps", spec := "moveOps", inPlace := ["slices.overlaps[arbour/move.done]"], unfollowed := true, recurses := true, plainKeys := false, apart := false, narrowed := true }
def MoveOpsUptoSaid : Prop := moveOpsUptoRow.holds Try.pinned (OpenSpec.upto moveOpsSpec)

/-- 'arbourlaw08.MoveSame', WHERE WHAT IT READS IS OF BULK AT MOST 1048576: true; the input reads as it did. -/
def moveSameUptoRow : OpenClaim := { program := "ytaglomhmnoldlaa", sum := "862995d125f776989e142824ada4a7e1d08cbbee2dcb2f0f47a8c31c624a6306", func := "arbour/arbourlaw08.MoveSame", spec := "moveSame", inPlace := ["slices.overlaps[arbour/move.done]", "slices.overlaps[arbour/api.Node]"], unfollowed := true, recurses := true, plainKeys := false, apart := false, narrowed := true }
def MoveSameUptoSaid : Prop := moveSameUptoRow.holds Try.pinned (OpenSpec.upto moveSameSpec)

end Rows
end Go.Proofs.Ytaglomhmnoldlaa
