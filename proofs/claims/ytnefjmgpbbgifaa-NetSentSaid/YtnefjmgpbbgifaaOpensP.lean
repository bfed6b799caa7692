/- A list of packets opened. -/
import Derived.Test.YtnefjmgpbbgifaaOpens
import Derived.Test.YtnefjmgpbbgifaaG
import Derived.Deep.Strs
namespace Go.Proofs.Ytnefjmgpbbgifaa.Opens
open Go.ChangeShapes Go.WideShapes Go.ChangeAt Go.RowKit
section
variable {H : Type} {enc : TypeId × Value → H} {w : World} {r : Reach} {b0 : Nat} {v : Value} {d : DataW H} {p : List MemPlace}
theorem struct30 : ∃ f0 f1 f2 : Field, Try.prog.underlying 30 = some (.struct #[f0, f1, f2]) ∧ f0.type = 3 ∧ f1.type = 3 ∧ f2.type = 9 ∧ f0.offset = 0 ∧ f1.offset = 1 ∧ f2.offset = 2 := ⟨_, _, _, Try.underlying30, rfl, rfl, rfl, rfl, rfl, rfl⟩
theorem cells30 : Try.prog.cellsOf 30 = 3 := by kernel_rfl
theorem cells3 : Try.prog.cellsOf 3 = 1 := by kernel_rfl
theorem cells9 : Try.prog.cellsOf 9 = 1 := by kernel_rfl
theorem pk_of : ∀ n cs x, DataW.trod enc Try.prog w 0 (fun _ => true) true n 30 cs = some x → ∃ y, PkC cs y := by
  intro n cs x h
  obtain ⟨f0, f1, f2, he, t0, t1, t2, o0, o1, o2⟩ := struct30
  obtain ⟨y0, y1, y2, m, _, hl, r0, r1, r2⟩ := Go.Deep.trod_struct3 he h
  rw [cells30] at hl
  rw [t0, o0, cells3] at r0
  rw [t1, o1, cells3] at r1
  rw [t2, o2, cells9] at r2
  match cs, hl with
  | [c0, c1, c2], _ =>
    obtain ⟨a, ea, _⟩ := int_of Try.underlying3 _ _ _ r0
    obtain ⟨b, eb, _⟩ := int_of Try.underlying3 _ _ _ r1
    obtain ⟨s, es, hs⟩ := str_of Try.underlying9 _ _ _ r2
    simp at ea eb es
    exact ⟨⟨a, b, s⟩, by simp [pc, bs, ea, eb, es], hs⟩
theorem open_pks (hv : Value.okWide Try.prog w r b0 22 v) (h : DataW.Trod enc Try.prog w 0 (fun _ => true) true 22 v d p) : ∃ A n c xs, v = .slice A n c ∧ Sl w 3 PkC A n c xs := arg_sl (by decide) Try.underlying22 cells30 pk_of hv h
end
end Go.Proofs.Ytnefjmgpbbgifaa.Opens
