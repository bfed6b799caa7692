/- Arguments opened, at this seat's types. -/
import Derived.Test.YtkkmleglaljacaaOpensG
import Derived.Test.YtkkmleglaljacaaA
import Derived.Deep.Strs
namespace Go.Proofs.Ytkkmleglaljacaa.Opens
open Go.ChangeShapes Go.WideShapes Go.ChangeAt Go.RowKit
section
variable {H : Type} {enc : TypeId × Value → H} {w : World} {r : Reach} {b0 : Nat} {v : Value} {d : DataW H} {p : List MemPlace}
theorem struct33 : ∃ f0 f1 f2 : Field, Try.prog.underlying 33 = some (.struct #[f0, f1, f2]) ∧ f0.type = 3 ∧ f1.type = 3 ∧ f2.type = 3 ∧ f0.offset = 0 ∧ f1.offset = 1 ∧ f2.offset = 2 := ⟨_, _, _, Try.underlying33, rfl, rfl, rfl, rfl, rfl, rfl⟩
theorem struct40 : ∃ f0 f1 : Field, Try.prog.underlying 40 = some (.struct #[f0, f1]) ∧ f0.type = 3 ∧ f1.type = 3 ∧ f0.offset = 0 ∧ f1.offset = 1 := ⟨_, _, Try.underlying40, rfl, rfl, rfl, rfl⟩
theorem cells33 : Try.prog.cellsOf 33 = 3 := by kernel_rfl
theorem cells40 : Try.prog.cellsOf 40 = 2 := by kernel_rfl
theorem cells3 : Try.prog.cellsOf 3 = 1 := by kernel_rfl
theorem rg_of : ∀ n cs x, DataW.trod enc Try.prog w 0 (fun _ => true) true n 33 cs = some x → ∃ y, RgC cs y := by
  intro n cs x h
  obtain ⟨f0, f1, f2, he, t0, t1, t2, o0, o1, o2⟩ := struct33
  obtain ⟨y0, y1, y2, m, _, hl, r0, r1, r2⟩ := Go.Deep.trod_struct3 he h
  rw [cells33] at hl
  rw [t0, o0, cells3] at r0
  rw [t1, o1, cells3] at r1
  rw [t2, o2, cells3] at r2
  match cs, hl with
  | [c0, c1, c2], _ =>
    obtain ⟨a, ea, ha⟩ := int_of Try.underlying3 _ _ _ r0
    obtain ⟨b, eb, hb⟩ := int_of Try.underlying3 _ _ _ r1
    obtain ⟨c, ec, hc⟩ := int_of Try.underlying3 _ _ _ r2
    simp at ea eb ec
    exact ⟨⟨a, b, c⟩, by simp [rc, ea, eb, ec], ha, hb, hc⟩
theorem open_rgs (hv : Value.okWide Try.prog w r b0 22 v) (h : DataW.Trod enc Try.prog w 0 (fun _ => true) true 22 v d p) : ∃ A n c xs, v = .slice A n c ∧ Sl w 3 RgC A n c xs := arg_sl (by decide) Try.underlying22 cells33 rg_of hv h
theorem open_rg (hv : Value.okWide Try.prog w r b0 33 v) (h : DataW.Trod enc Try.prog w 0 (fun _ => true) true 33 v d p) : ∃ x : Rg, v = .agg #[.int .i64 x.w, .int .i64 x.f, .int .i64 x.t] ∧ R64 x := by
  obtain ⟨cs, rfl, _⟩ := okWide_struct Try.underlying33 hv
  obtain ⟨n, hn⟩ := h
  obtain ⟨y, e, hr⟩ := rg_of _ _ _ hn
  refine ⟨y, ?_, hr⟩
  simp only [Value.cells] at e
  rw [← Array.toArray_toList (xs := cs), e]
  rfl
theorem open_int (hv : Value.okWide Try.prog w r b0 3 v) (h : DataW.Trod enc Try.prog w 0 (fun _ => true) true 3 v d p) : ∃ x, v = .int .i64 x ∧ I64 x := arg_int Try.underlying3 hv h
theorem open_ask (hv : Value.okWide Try.prog w r b0 40 v) (h : DataW.Trod enc Try.prog w 0 (fun _ => true) true 40 v d p) : ∃ a b, v = .agg #[.int .i64 a, .int .i64 b] ∧ I64 a ∧ I64 b := by
  obtain ⟨cs, rfl, _⟩ := okWide_struct Try.underlying40 hv
  obtain ⟨n, hn⟩ := h
  obtain ⟨f0, f1, he, t0, t1, o0, o1⟩ := struct40
  obtain ⟨y, e, h1, h2⟩ := stamp_of he cells40 t0 t1 o0 o1 cells3 Try.underlying3 _ _ _ hn
  refine ⟨y.1, y.2, ?_, h1, h2⟩
  simp only [Value.cells] at e
  rw [← Array.toArray_toList (xs := cs), e]
end
end Go.Proofs.Ytkkmleglaljacaa.Opens
