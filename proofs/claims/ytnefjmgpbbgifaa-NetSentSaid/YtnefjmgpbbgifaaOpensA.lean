/- A list of calls opened. -/
import Derived.Test.YtnefjmgpbbgifaaOpensP
import Derived.Test.YtnefjmgpbbgifaaS2
namespace Go.Proofs.Ytnefjmgpbbgifaa.Opens
open Go.ChangeShapes Go.WideShapes Go.ChangeAt Go.RowKit
section
variable {H : Type} {enc : TypeId × Value → H} {w : World} {r : Reach} {b0 : Nat} {v : Value} {d : DataW H} {p : List MemPlace}
theorem struct42 : ∃ f0 f1 f2 : Field, Try.prog.underlying 42 = some (.struct #[f0, f1, f2]) ∧ f0.type = 3 ∧ f1.type = 30 ∧ f2.type = 3 ∧ f0.offset = 0 ∧ f1.offset = 1 ∧ f2.offset = 4 := ⟨_, _, _, Try.underlying42, rfl, rfl, rfl, rfl, rfl, rfl⟩
theorem cells42 : Try.prog.cellsOf 42 = 5 := by kernel_rfl
theorem ask_of : ∀ n cs x, DataW.trod enc Try.prog w 0 (fun _ => true) true n 42 cs = some x → ∃ y, AskC cs y := by
  intro n cs x h
  obtain ⟨f0, f1, f2, he, t0, t1, t2, o0, o1, o2⟩ := struct42
  obtain ⟨y0, y1, y2, m, _, hl, r0, r1, r2⟩ := Go.Deep.trod_struct3 he h
  rw [cells42] at hl
  rw [t0, o0, cells3] at r0
  rw [t1, o1, cells30] at r1
  rw [t2, o2, cells3] at r2
  match cs, hl with
  | [c0, c1, c2, c3, c4], _ =>
    obtain ⟨a, ea, _⟩ := int_of Try.underlying3 _ _ _ r0
    obtain ⟨q, eq, hq⟩ := pk_of _ _ _ r1
    obtain ⟨b, eb, _⟩ := int_of Try.underlying3 _ _ _ r2
    simp [pc] at ea eq eb
    exact ⟨⟨a, q, b⟩, by simp [ea, eq, eb], hq⟩
theorem open_asks (hv : Value.okWide Try.prog w r b0 37 v) (h : DataW.Trod enc Try.prog w 0 (fun _ => true) true 37 v d p) : ∃ A n c xs, v = .slice A n c ∧ Sl w 5 AskC A n c xs := arg_sl (by decide) Try.underlying37 cells42 ask_of hv h
end
end Go.Proofs.Ytnefjmgpbbgifaa.Opens
