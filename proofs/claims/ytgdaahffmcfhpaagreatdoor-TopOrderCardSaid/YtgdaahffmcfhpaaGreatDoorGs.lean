/- No body of the translation starts a goroutine; a world that holds the listed tables. -/
import Derived.Test.YtgdaahffmcfhpaaGreatDoorCards
import GoSem.PinnedTables
import Derived.KernelRfl
import Derived.ProofKit
import Derived.Deep.DeepHandedRow
namespace Go.Proofs.YtgdaahffmcfhpaaGreatDoor
open Go
theorem goes_none (P : Program) (h : P.funcs.any Func.goes = false) (f : FuncId) : P.goes f = false := by
  have h1 : ∀ g : Nat, (P.funcs[g]?).any Func.goes = false := fun g => by
    cases hg : P.funcs[g]? with
    | none => rfl
    | some fn =>
      obtain ⟨hl, he⟩ := Array.getElem?_eq_some_iff.1 hg
      have := (Array.any_eq_false.1 h) g hl
      rw [he] at this
      simpa using this
  unfold Program.goes
  rw [h, Bool.and_false, Bool.or_false]
  rw [List.any_eq_false]
  intro g _
  simp [h1 g]
set_option maxRecDepth 100000 in
theorem funcs_goes : Tryz.prog.funcs.any Func.goes = false := by kernel_rfl
set_option maxRecDepth 100000 in
theorem from_none (P : Program) (h : P.funcs.any Func.goes = false) (n : String) : P.goesFrom n = false := by
  unfold Program.goesFrom
  cases P.funcNamed n with
  | none => rfl
  | some f => exact goes_none P h f
theorem goesBy_none (c : OpenClaim) (P : Program) (h : P.funcs.any Func.goes = false) (hs : c.start = .entering) : false = c.goesBy P := by
  unfold OpenClaim.goesBy Program.goesAt
  rw [from_none P h, hs]
  rfl
theorem tree_goes : false = Rows.topTreeRow.goesBy Tryz.prog := goesBy_none _ _ funcs_goes rfl
theorem order_goes : false = Rows.topOrderRow.goesBy Tryz.prog := goesBy_none _ _ funcs_goes rfl
/-- what the listed variables' blocks hold -/
def laidCells : Nat → Array Value
  | 1 => (Pinned.utf8FirstZ.map fun n : Nat => Value.int .u8 n).toArray
  | 2 => ([128, 191, 160, 191, 128, 159, 144, 191, 128, 143, 0, 0, 0, 0, 0, 0, 0, 0, 0, 0, 0, 0, 0, 0, 0, 0, 0, 0, 0, 0, 0, 0].map fun n : Nat => Value.int .u8 n).toArray
  | 3 => ([1, 10, 100, 1000, 10000, 100000, 1000000, 10000000, 100000000, 1000000000, 10000000000, 100000000000, 1000000000000, 10000000000000, 100000000000000, 1000000000000000, 10000000000000000, 100000000000000000, 1000000000000000000, 10000000000000000000].map fun n : Nat => Value.int .u64 n).toArray
  | 4 => ([0, 1, 28, 2, 29, 14, 24, 3, 30, 22, 20, 15, 25, 17, 4, 8, 31, 27, 13, 23, 21, 19, 16, 7, 26, 12, 18, 6, 11, 5, 10, 9].map fun n : Nat => Value.int .u8 n).toArray
  | 5 => ([0, 1, 56, 2, 57, 49, 28, 3, 61, 58, 42, 50, 38, 29, 17, 4, 62, 47, 59, 36, 45, 43, 51, 22, 53, 39, 33, 30, 24, 18, 12, 5, 63, 55, 48, 27, 60, 41, 37, 16, 46, 35, 44, 21, 52, 32, 23, 11, 54, 26, 40, 15, 34, 20, 31, 10, 25, 14, 19, 9, 13, 8, 7, 6].map fun n : Nat => Value.int .u8 n).toArray
  | _ => #[]
def laidAt (g : Nat) (h : Array Obj) : Array Obj := h.modify g fun
  | .cells _ t frozen => .cells (laidCells g) t frozen
  | o => o
noncomputable def laidWorld (os : Os) : World :=
  { World.holding Tryz.prog os ⟨#[], #[], []⟩ with heap := laidAt 5 (laidAt 4 (laidAt 3 (laidAt 2 (laidAt 1 (World.holding Tryz.prog os ⟨#[], #[], []⟩).heap)))) }
end Go.Proofs.YtgdaahffmcfhpaaGreatDoor
