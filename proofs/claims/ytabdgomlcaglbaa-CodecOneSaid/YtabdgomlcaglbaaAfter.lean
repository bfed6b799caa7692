/- A region that draws its order beside callees that only make memory. -/
import Derived.Test.YtabdgomlcaglbaaWords
import Derived.BigQuiet
namespace Go.Proofs.Ytabdgomlcaglbaa
open Go.RowKit
theorem cell_lt {w : World} {g o : Nat} {v : Value} (h : w.cell? ⟨g, o, none⟩ = some v) : g < w.heap.size := by
  rcases Nat.lt_or_ge g w.heap.size with hlt | hge
  · exact hlt
  · simp [World.cell?, Array.getElem?_eq_none hge] at h
theorem cell_below {w w1 : World} (hb : Below w.heap.size w w1) {g o : Nat} {v : Value} (hg : g < w.heap.size) (h : w.cell? ⟨g, o, none⟩ = some v) : w1.cell? ⟨g, o, none⟩ = some v := (hb.cell (p := ⟨g, o, none⟩) hg).trans h
/-- The worlds that come behind W: what was there is as it was. -/
structure After (W : World) where
  wd : World
  below : Below W.heap.size W wd
instance (W : World) : Nonempty (After W) := ⟨⟨W, Below.refl _ _⟩⟩
/-- A region that draws its order, whose operations read and whose callees turn nothing that was there: one walk in the text's order. -/
theorem wp_region_after {P : Program} {id : Nat} {Q : Exit → Act → World → Prop} {a : Act} {w : World} {l : List Oper} (hm : P.follows .mixedOrders = true) (hB : Region.lexB .any l.toArray = true)
    (h : wpQuiet P l.toArray (fun w' => ∃ x : After w, w' = x.wd) (fun a' => ∀ w', (∃ x : After w, w' = x.wd) → Q .normal a' w') l a) : (Code.region id l.toArray true).wp P Q a w :=
  wp_region_quiet (C := fun w' => ∃ x : After w, w' = x.wd) hm hB ⟨⟨_, (Below.refl _ _).drew⟩, rfl⟩ (by simpa using h)
theorem after_call {P : Program} {f : FuncId} {args : Array Value} {W : World} {x : After W} {v : Value} (h : Calls P f args x.wd fun e w' => e = .returned v ∧ Below x.wd.heap.size x.wd w') :
    Calls P f args x.wd fun e w'' => e = .returned v ∧ ∃ y : After W, w'' = y.wd :=
  h.mono fun _ w' ⟨he, hb⟩ => ⟨he, ⟨w', x.below.trans (hb.mono x.below.size)⟩, rfl⟩
theorem after_same {P : Program} {f : FuncId} {args : Array Value} {W : World} {x : After W} {v : Value} (h : Calls P f args x.wd fun e w' => e = .returned v ∧ x.wd = w') :
    Calls P f args x.wd fun e w'' => e = .returned v ∧ ∃ y : After W, w'' = y.wd :=
  h.mono fun _ w' ⟨he, hb⟩ => ⟨he, x, hb.symm⟩
theorem After.cell {W : World} (x : After W) {g o : Nat} {v : Value} (h : W.cell? ⟨g, o, none⟩ = some v) : x.wd.cell? ⟨g, o, none⟩ = some v := cell_below x.below (cell_lt h) h

end Go.Proofs.Ytabdgomlcaglbaa
