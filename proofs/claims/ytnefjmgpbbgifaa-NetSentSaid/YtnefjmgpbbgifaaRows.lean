/-
  No cell of these rows narrows 'for every input' (looked for: loops, veiled, ifaces, maps, wideKeys, modest, calm, conditions, laid).
  DERIVED. THE GIVEN ROWS OF THIS SEAT. 6 by the template 'for every input the law returns true; each argument reads behind the call as it read before'; 0 by the template 'total and deterministic' (their statements: YtnefjmgpbbgifaaTotals.lean).
  GIVEN WITH THE SEED: the statements are not yours to turn. If you find one false, say at which input.
  Laid BY PROGRAM, IN A SANDBOX (cutbox-rows.mjs): the forced cells as the released guide's own fill.sh prints them over the translation c7e569de710541af… (all of the seat's roots in one cut). By AI agents, Wed Nov 11 2026. No macro, syntax, notation, axiom, sorry.
-/
import Derived.Test.YtnefjmgpbbgifaaChecked
import GoSem.Claim
import GoSem.ClaimJoined
import GoSem.ClaimMapViews
import Derived.JoinedTies
import Derived.KernelRfl
namespace Go.Proofs.Ytnefjmgpbbgifaa
/- THE CELL 'sum', in the pinned program and in every row, IS THE sha256 OF THE DUMP (.gsa) THAT YtnefjmgpbbgifaaProg.lean LOADS. Nothing in Lean hashes anything: it is a label: what it is worth is what the hold of that sum in a sandbox is worth. -/
noncomputable def Try.pinned : Pinned := { name := "ytnefjmgpbbgifaa", sum := "c7e569de710541afb9127d2350cb9f639c376674ee5ea6fa584e88d754e19c15", checked := Try.checked }
namespace Rows
def none {H : Type} : Left H := { results := [], args := [] }

/-- 'arbourlaw22.NetOrder': WHATEVER THE INPUT: true; the input reads as it did. -/
def netOrderSpec : ChangeSpec := { name := "netOrder", fn := fun _ => fun
  | [d] => { results := [.lit (.bool true)], args := [d] }
  | _ => none }
def netOrderRow : OpenClaim := { program := "ytnefjmgpbbgifaa", sum := "c7e569de710541afb9127d2350cb9f639c376674ee5ea6fa584e88d754e19c15", func := "arbour/arbourlaw22.NetOrder", spec := "netOrder", inPlace := ["sync/atomic.AddInt64", "sync/atomic.LoadInt64"], plainKeys := false, apart := false }
def NetOrderSaid : Prop := netOrderRow.holds Try.pinned (OpenSpec.ofChange netOrderSpec)

/-- ITS FALSE NEIGHBOUR: 'it returns false'. Refute it at one input. -/
def netOrderWrong : ChangeSpec := { name := "netOrder", fn := fun _ => fun
  | [d] => { results := [.lit (.bool false)], args := [d] }
  | _ => none }
def NetOrderWrongFalsely : Prop := netOrderRow.holds Try.pinned (OpenSpec.ofChange netOrderWrong)

/-- 'arbourlaw22.NetFull': WHATEVER THE INPUT: true; the input reads as it did. -/
def netFullSpec : ChangeSpec := { name := "netFull", fn := fun _ => fun
  | [d] => { results := [.lit (.bool true)], args := [d] }
  | _ => none }
def netFullRow : OpenClaim := { program := "ytnefjmgpbbgifaa", sum := "c7e569de710541afb9127d2350cb9f639c376674ee5ea6fa584e88d754e19c15", func := "arbour/arbourlaw22.NetFull", spec := "netFull", inPlace := ["sync/atomic.AddInt64", "sync/atomic.LoadInt64"], plainKeys := false, apart := false }
def NetFullSaid : Prop := netFullRow.holds Try.pinned (OpenSpec.ofChange netFullSpec)

/-- ITS FALSE NEIGHBOUR: 'it returns false'. Refute it at one input. -/
def netFullWrong : ChangeSpec := { name := "netFull", fn := fun _ => fun
  | [d] => { results := [.lit (.bool false)], args := [d] }
  | _ => none }
def NetFullWrongFalsely : Prop := netFullRow.holds Try.pinned (OpenSpec.ofChange netFullWrong)

/-- 'arbourlaw22.NetPlays': WHATEVER THE INPUT: true; the input reads as it did. -/
def netPlaysSpec : ChangeSpec := { name := "netPlays", fn := fun _ => fun
  | [d1, d2] => { results := [.lit (.bool true)], args := [d1, d2] }
  | _ => none }
def netPlaysRow : OpenClaim := { program := "ytnefjmgpbbgifaa", sum := "c7e569de710541afb9127d2350cb9f639c376674ee5ea6fa584e88d754e19c15", func := "arbour/arbourlaw22.NetPlays", spec := "netPlays", inPlace := ["sync/atomic.AddInt64", "sync/atomic.LoadInt64"], unfollowed := true, recurses := true, plainKeys := false, apart := false }
def NetPlaysSaid : Prop := netPlaysRow.holds Try.pinned (OpenSpec.ofChange netPlaysSpec)

/-- ITS FALSE NEIGHBOUR: 'it returns false'. Refute it at one input. -/
def netPlaysWrong : ChangeSpec := { name := "netPlays", fn := fun _ => fun
  | [d1, d2] => { results := [.lit (.bool false)], args := [d1, d2] }
  | _ => none }
def NetPlaysWrongFalsely : Prop := netPlaysRow.holds Try.pinned (OpenSpec.ofChange netPlaysWrong)

/-- 'arbourlaw22.NetSent': WHATEVER THE INPUT: true; the input reads as it did. -/
def netSentSpec : ChangeSpec := { name := "netSent", fn := fun _ => fun
  | [d1, d2] => { results := [.lit (.bool true)], args := [d1, d2] }
  | _ => none }
def netSentRow : OpenClaim := { program := "ytnefjmgpbbgifaa", sum := "c7e569de710541afb9127d2350cb9f639c376674ee5ea6fa584e88d754e19c15", func := "arbour/arbourlaw22.NetSent", spec := "netSent", inPlace := ["sync/atomic.AddInt64", "sync/atomic.LoadInt64"], unfollowed := true, recurses := true, plainKeys := false, apart := false }
def NetSentSaid : Prop := netSentRow.holds Try.pinned (OpenSpec.ofChange netSentSpec)

/-- ITS FALSE NEIGHBOUR: 'it returns false'. Refute it at one input. -/
def netSentWrong : ChangeSpec := { name := "netSent", fn := fun _ => fun
  | [d1, d2] => { results := [.lit (.bool false)], args := [d1, d2] }
  | _ => none }
def NetSentWrongFalsely : Prop := netSentRow.holds Try.pinned (OpenSpec.ofChange netSentWrong)

/-- 'arbourlaw22.NetNil': WHATEVER THE INPUT: true; the input reads as it did. -/
def netNilSpec : ChangeSpec := { name := "netNil", fn := fun _ => fun
  | [d] => { results := [.lit (.bool true)], args := [d] }
  | _ => none }
def netNilRow : OpenClaim := { program := "ytnefjmgpbbgifaa", sum := "c7e569de710541afb9127d2350cb9f639c376674ee5ea6fa584e88d754e19c15", func := "arbour/arbourlaw22.NetNil", spec := "netNil", inPlace := ["sync/atomic.AddInt64", "sync/atomic.LoadInt64"], unfollowed := true, recurses := true, plainKeys := false, apart := false }
def NetNilSaid : Prop := netNilRow.holds Try.pinned (OpenSpec.ofChange netNilSpec)

/-- ITS FALSE NEIGHBOUR: 'it returns false'. Refute it at one input. -/
def netNilWrong : ChangeSpec := { name := "netNil", fn := fun _ => fun
  | [d] => { results := [.lit (.bool false)], args := [d] }
  | _ => none }
def NetNilWrongFalsely : Prop := netNilRow.holds Try.pinned (OpenSpec.ofChange netNilWrong)

/-- 'arbourlaw22.NetCut': WHATEVER THE INPUT: true; the input reads as it did. -/
def netCutSpec : ChangeSpec := { name := "netCut", fn := fun _ => fun
  | [d1, d2] => { results := [.lit (.bool true)], args := [d1, d2] }
  | _ => none }
def netCutRow : OpenClaim := { program := "ytnefjmgpbbgifaa", sum := "c7e569de710541afb9127d2350cb9f639c376674ee5ea6fa584e88d754e19c15", func := "arbour/arbourlaw22.NetCut", spec := "netCut", inPlace := ["sync/atomic.AddInt64", "sync/atomic.LoadInt64"], unfollowed := true, recurses := true, plainKeys := false, apart := false }
def NetCutSaid : Prop := netCutRow.holds Try.pinned (OpenSpec.ofChange netCutSpec)

/-- ITS FALSE NEIGHBOUR: 'it returns false'. Refute it at one input. -/
def netCutWrong : ChangeSpec := { name := "netCut", fn := fun _ => fun
  | [d1, d2] => { results := [.lit (.bool false)], args := [d1, d2] }
  | _ => none }
def NetCutWrongFalsely : Prop := netCutRow.holds Try.pinned (OpenSpec.ofChange netCutWrong)

/- THE SECOND FORM. 'bulk': how many values and letters a reading holds, each counted each time it is reached (what is shared counts as often as it is met; a slice's spare places count too). A statement '..UptoSaid' is the law's where the arguments, and the package variables that the reading takes, are together of bulk at most 1048576: NARROWER than '..Said'. Prove '..Said' where nothing that the law and all that it calls make is longer than what came in: it says more and counts as full. Else prove '..UptoSaid'. A law counts once. -/
mutual
def uptoBulk {H : Type} : DataW H → Nat
  | .lit (.string bytes) => bytes.length + 1
  | .lit _ => 1
  | .nil => 1
  | .ptr d => uptoBulk d + 1
  | .slice elems spare => uptoBulkAll elems + uptoBulkAll spare + 1
  | .agg parts => uptoBulkAll parts + 1
  | .iface _ d => uptoBulk d + 1
  | .map entries => uptoBulkEntries entries + 1
  | .held _ => 1
def uptoBulkAll {H : Type} : List (DataW H) → Nat
  | [] => 0
  | d :: r => uptoBulk d + uptoBulkAll r
def uptoBulkEntries {H : Type} : List (Lit × DataW H) → Nat
  | [] => 0
  | x :: r => uptoBulkEntry x + uptoBulkEntries r
def uptoBulkEntry {H : Type} : Lit × DataW H → Nat
  | (.string bytes, d) => bytes.length + uptoBulk d + 1
  | (_, d) => uptoBulk d + 1
 end
def uptoSmall : (H : Type) → List (DataW H) → Bool := fun _ ds => decide (uptoBulkAll ds ≤ 1048576)
def OpenSpec.upto (s : _root_.Go.ChangeSpec) : _root_.Go.OpenSpec := { _root_.Go.OpenSpec.ofChange s with cond := some uptoSmall }

/-- 'arbourlaw22.NetOrder', WHERE WHAT IT READS IS OF BULK AT MOST 1048576: true; the input reads as it did. -/
def netOrderUptoRow : OpenClaim := { program := "ytnefjmgpbbgifaa", sum := "c7e569de710541afb9127d2350cb9f639c376674ee5ea6fa584e88d754e19c15", func := "arbour/arbourlaw22.NetOrder", spec := "netOrder", inPlace := ["sync/atomic.AddInt64", "sync/atomic.LoadInt64"], plainKeys := false, apart := false, narrowed := true }
def NetOrderUptoSaid : Prop := netOrderUptoRow.holds Try.pinned (OpenSpec.upto netOrderSpec)

/-- 'arbourlaw22.NetFull', WHERE WHAT IT READS IS OF BULK AT MOST 1048576: true; the input reads as it did. -/
def netFullUptoRow : OpenClaim := { program := "ytnefjmgpbbgifaa", sum := "c7e569de710541afb9127d2350cb9f639c376674ee5ea6fa584e88d754e19c15", func := "arbour/arbourlaw22.NetFull", spec := "netFull", inPlace := ["sync/atomic.AddInt64", "sync/atomic.LoadInt64"], plainKeys := false, apart := false, narrowed := true }
def NetFullUptoSaid : Prop := netFullUptoRow.holds Try.pinned (OpenSpec.upto netFullSpec)

/-- 'arbourlaw22.NetPlays', WHERE WHAT IT READS IS OF BULK AT MOST 1048576: true; the input reads as it did. -/
def netPlaysUptoRow : OpenClaim := { program := "ytnefjmgpbbgifaa", sum := "c7e569de710541afb9127d2350cb9f639c376674ee5ea6fa584e88d754e19c15", func := "arbour/arbourlaw22.NetPlays", spec := "netPlays", inPlace := ["sync/atomic.AddInt64", "sync/atomic.LoadInt64"], unfollowed := true, recurses := true, plainKeys := false, apart := false, narrowed := true }
def NetPlaysUptoSaid : Prop := netPlaysUptoRow.holds Try.pinned (OpenSpec.upto netPlaysSpec)

/-- 'arbourlaw22.NetSent', WHERE WHAT IT READS IS OF BULK AT MOST 1048576: true; the input reads as it did. -/
def netSentUptoRow : OpenClaim := { program := "ytnefjmgpbbgifaa", sum := "c7e569de710541afb9127d2350cb9f639c376674ee5ea6fa584e88d754e19c15", func := "arbour/arbourlaw22.NetSent", spec := "netSent", inPlace := ["sync/atomic.AddInt64", "sync/atomic.LoadInt64"], unfollowed := true, recurses := true, plainKeys := false, apart := false, narrowed := true }
def NetSentUptoSaid : Prop := netSentUptoRow.holds Try.pinned (OpenSpec.upto netSentSpec)

/-- 'arbourlaw22.NetNil', WHERE WHAT IT READS IS OF BULK AT MOST 1048576: true; the input reads as it did. -/
def netNilUptoRow : OpenClaim := { program := "ytnefjmgpbbgifaa", sum := "c7e569de710541afb9127d2350cb9f639c376674ee5ea6fa584e88d754e19c15", func := "arbour/arbourlaw22.NetNil", spec := "netNil", inPlace := ["sync/atomic.AddInt64", "sync/atomic.LoadInt64"], unfollowed := true, recurses := true, plainKeys := false, apart := false, narrowed := true }
def NetNilUptoSaid : Prop := netNilUptoRow.holds Try.pinned (OpenSpec.upto netNilSpec)

/-- 'arbourlaw22.NetCut', WHERE WHAT IT READS IS OF BULK AT MOST 1048576: true; the input reads as it did. -/
def netCutUptoRow : OpenClaim := { program := "ytnefjmgpbbgifaa", sum := "c7e569de710541afb9127d2350cb9f639c376674ee5ea6fa584e88d754e19c15", func := "arbour/arbourlaw22.NetCut", spec := "netCut", inPlace := ["sync/atomic.AddInt64", "sync/atomic.LoadInt64"], unfollowed := true, recurses := true, plainKeys := false, apart := false, narrowed := true }
def NetCutUptoSaid : Prop := netCutUptoRow.holds Try.pinned (OpenSpec.upto netCutSpec)

end Rows
end Go.Proofs.Ytnefjmgpbbgifaa
