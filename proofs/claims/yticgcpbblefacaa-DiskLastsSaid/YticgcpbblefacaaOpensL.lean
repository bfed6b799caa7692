/- A list of calls, and a pair, opened. -/
import Derived.Test.YticgcpbblefacaaOpens
import Derived.Test.YticgcpbblefacaaDl
namespace Go.Proofs.Yticgcpbblefacaa.Opens
open Go.ChangeShapes Go.WideShapes Go.ChangeAt Go.RowKit
section
variable {H : Type} {enc : TypeId × Value → H} {w : World} {r : Reach} {b0 : Nat} {v : Value} {d : DataW H} {p : List MemPlace}
theorem struct40 : ∃ f0 f1 f2 f3 f4 : Field, Try.prog.underlying 40 = some (.struct #[f0, f1, f2, f3, f4]) ∧ f0.type = 3 ∧ f1.type = 9 ∧ f2.type = 3 ∧ f3.type = 9 ∧ f4.type = 4 ∧ f0.offset = 0 ∧ f1.offset = 1 ∧ f2.offset = 2 ∧ f3.offset = 3 ∧ f4.offset = 4 := ⟨_, _, _, _, _, Try.underlying40, rfl, rfl, rfl, rfl, rfl, rfl, rfl, rfl, rfl, rfl⟩
theorem cells40 : Try.prog.cellsOf 40 = 5 := by kernel_rfl
theorem cells3 : Try.prog.cellsOf 3 = 1 := by kernel_rfl
theorem cells9 : Try.prog.cellsOf 9 = 1 := by kernel_rfl
theorem cells4 : Try.prog.cellsOf 4 = 1 := by kernel_rfl
theorem cells36 : Try.prog.cellsOf 36 = 2 := by kernel_rfl
theorem trod_struct5 {P : Program} {base : Nat} {spare : Nat → Bool} {held : Bool} {t : TypeId} {f0 f1 f2 f3 f4 : Field} {fuel : Nat} {cs : List Value} {x : DataW H × List MemPlace} (ht : P.underlying t = some (.struct #[f0, f1, f2, f3, f4])) (h : DataW.trod enc P w base spare held fuel t cs = some x) :
    ∃ y0 y1 y2 y3 y4 n, cs.length = P.cellsOf t ∧ DataW.trod enc P w base spare held n f0.type ((cs.drop f0.offset).take (P.cellsOf f0.type)) = some y0 ∧
      DataW.trod enc P w base spare held n f1.type ((cs.drop f1.offset).take (P.cellsOf f1.type)) = some y1 ∧ DataW.trod enc P w base spare held n f2.type ((cs.drop f2.offset).take (P.cellsOf f2.type)) = some y2 ∧
      DataW.trod enc P w base spare held n f3.type ((cs.drop f3.offset).take (P.cellsOf f3.type)) = some y3 ∧ DataW.trod enc P w base spare held n f4.type ((cs.drop f4.offset).take (P.cellsOf f4.type)) = some y4 := by
  obtain ⟨xs, n, _, rfl, hl, hlen, hf⟩ := DataW.trod_struct ht h
  match xs, hlen with
  | [y0, y1, y2, y3, y4], _ => exact ⟨y0, y1, y2, y3, y4, n, hl, by simpa using hf 0 f0 rfl, by simpa using hf 1 f1 rfl, by simpa using hf 2 f2 rfl, by simpa using hf 3 f3 rfl, by simpa using hf 4 f4 rfl⟩
theorem op_of : ∀ n cs x, DataW.trod enc Try.prog w 0 (fun _ => true) true n 40 cs = some x → ∃ y, OpC cs y := by
  intro n cs x h
  obtain ⟨f0, f1, f2, f3, f4, he, t0, t1, t2, t3, t4, o0, o1, o2, o3, o4⟩ := struct40
  obtain ⟨y0, y1, y2, y3, y4, m, hl, r0, r1, r2, r3, r4⟩ := trod_struct5 he h
  rw [cells40] at hl
  rw [t0, o0, cells3] at r0
  rw [t1, o1, cells9] at r1
  rw [t2, o2, cells3] at r2
  rw [t3, o3, cells9] at r3
  rw [t4, o4, cells4] at r4
  match cs, hl with
  | [c0, c1, c2, c3, c4], _ =>
    obtain ⟨a, ea, _⟩ := int_of Try.underlying3 _ _ _ r0
    obtain ⟨b, eb, _⟩ := str_of Try.underlying9 _ _ _ r1
    obtain ⟨c, ec, _⟩ := int_of Try.underlying3 _ _ _ r2
    obtain ⟨e, ee, he2⟩ := str_of Try.underlying9 _ _ _ r3
    obtain ⟨f, ef, _⟩ := DataW.trod_bool Try.underlying4 r4
    simp at ea eb ec ee ef
    exact ⟨⟨a, b, c, e, f⟩, by simp [ea, eb, ec, ee, ef, bs], he2⟩
theorem open_ops (hv : Value.okWide Try.prog w r b0 35 v) (h : DataW.Trod enc Try.prog w 0 (fun _ => true) true 35 v d p) : ∃ A n c xs, v = .slice A n c ∧ Sl w 5 OpC A n c xs := arg_sl (by decide) Try.underlying35 cells40 op_of hv h
theorem open_pair (hv : Value.okWide Try.prog w r b0 36 v) (h : DataW.Trod enc Try.prog w 0 (fun _ => true) true 36 v d p) : ∃ x y, v = .agg #[.int .i64 x, .int .i64 y] ∧ I64 x ∧ I64 y := by
  have ht : Try.prog.underlying 36 = some (.array 2 3) := Try.underlying36
  simp only [Value.okWide, ht] at hv
  obtain ⟨cs, rfl, hsz, _⟩ := hv
  rw [cells36] at hsz
  obtain ⟨c0, c1, rfl⟩ : ∃ c0 c1, cs = #[c0, c1] := by
    obtain ⟨l⟩ := cs
    match l, hsz with
    | [c0, c1], _ => exact ⟨c0, c1, rfl⟩
  obtain ⟨m, hm⟩ := h
  obtain ⟨xs, k, _, _, _, hl, hf⟩ := Go.DataW.trod_array ht hm
  have e0 := hf 0 (by decide)
  have e1 := hf 1 (by decide)
  rw [cells3] at e0 e1
  match xs, hl with
  | [y0, y1], _ =>
    simp [Value.cells] at e0 e1
    obtain ⟨a, ea, ha⟩ := int_of Try.underlying3 _ _ _ e0
    obtain ⟨b, eb, hb⟩ := int_of Try.underlying3 _ _ _ e1
    simp at ea eb
    exact ⟨a, b, by rw [ea, eb], ha, hb⟩
end
end Go.Proofs.Yticgcpbblefacaa.Opens
