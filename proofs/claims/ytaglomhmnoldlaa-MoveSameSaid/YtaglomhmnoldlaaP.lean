/- Nodes and operations opened: lists of them handed in, an operation, a stamp. -/
import Derived.Test.YtaglomhmnoldlaaOpensG
import Derived.Test.YtaglomhmnoldlaaV
import Derived.Deep.Strs
namespace Go.Proofs.Ytaglomhmnoldlaa.Opens
open Go.ChangeShapes Go.WideShapes Go.ChangeAt Go.RowKit
section
variable {H : Type} {enc : TypeId × Value → H} {w : World} {r : Reach} {b0 : Nat} {v : Value} {d : DataW H} {p : List MemPlace}
theorem cells38 : Try.prog.cellsOf 38 = 7 := by kernel_rfl
theorem cells31 : Try.prog.cellsOf 31 = 11 := by kernel_rfl
theorem cells27 : Try.prog.cellsOf 27 = 2 := by kernel_rfl
theorem cells3 : Try.prog.cellsOf 3 = 1 := by kernel_rfl
theorem cells4 : Try.prog.cellsOf 4 = 1 := by kernel_rfl
theorem cells9 : Try.prog.cellsOf 9 = 1 := by kernel_rfl
theorem struct30 : ∃ f0 f1 : Field, Try.prog.underlying 27 = some (.struct #[f0, f1]) ∧ f0.type = 3 ∧ f1.type = 3 ∧ f0.offset = 0 ∧ f1.offset = 1 := ⟨_, _, Try.underlying27, rfl, rfl, rfl, rfl⟩
theorem struct37 : ∃ f0 f1 f2 f3 f4 : Field, Try.prog.underlying 38 = some (.struct #[f0, f1, f2, f3, f4]) ∧ f0.type = 27 ∧ f1.type = 4 ∧ f2.type = 27 ∧ f3.type = 9 ∧ f4.type = 9 ∧ f0.offset = 0 ∧ f1.offset = 2 ∧ f2.offset = 3 ∧ f3.offset = 5 ∧ f4.offset = 6 := ⟨_, _, _, _, _, Try.underlying38, rfl, rfl, rfl, rfl, rfl, rfl, rfl, rfl, rfl, rfl⟩
theorem struct32 : ∃ f0 f1 f2 f3 f4 f5 f6 f7 : Field, Try.prog.underlying 31 = some (.struct #[f0, f1, f2, f3, f4, f5, f6, f7]) ∧ (f0.type = 27 ∧ f1.type = 3 ∧ f2.type = 3 ∧ f3.type = 27 ∧ f4.type = 4 ∧ f5.type = 27 ∧ f6.type = 9 ∧ f7.type = 9) ∧ (f0.offset = 0 ∧ f1.offset = 2 ∧ f2.offset = 3 ∧ f3.offset = 4 ∧ f4.offset = 6 ∧ f5.offset = 7 ∧ f6.offset = 9 ∧ f7.offset = 10) := ⟨_, _, _, _, _, _, _, _, Try.underlying31, ⟨rfl, rfl, rfl, rfl, rfl, rfl, rfl, rfl⟩, rfl, rfl, rfl, rfl, rfl, rfl, rfl, rfl⟩
theorem st_of : ∀ n cs x, DataW.trod enc Try.prog w 0 (fun _ => true) true n 27 cs = some x → ∃ y, StampC cs y := by
  obtain ⟨f0, f1, he, t0, t1, o0, o1⟩ := struct30
  exact stamp_of he cells27 t0 t1 o0 o1 cells3 Try.underlying3
set_option maxRecDepth 100000 in
theorem nd_of : ∀ n cs x, DataW.trod enc Try.prog w 0 (fun _ => true) true n 38 cs = some x → ∃ y, NdC cs y := by
  intro n cs x h
  obtain ⟨f0, f1, f2, f3, f4, he, t0, t1, t2, t3, t4, o0, o1, o2, o3, o4⟩ := struct37
  obtain ⟨xs, m, _, _, hl, hlen, hf⟩ := DataW.trod_struct he h
  rw [cells38] at hl
  match xs, hlen with
  | [y0, y1, y2, y3, y4], _ =>
    have r0 := hf 0 f0 rfl
    have r1 := hf 1 f1 rfl
    have r2 := hf 2 f2 rfl
    have r3 := hf 3 f3 rfl
    have r4 := hf 4 f4 rfl
    rw [t0, o0, cells27] at r0
    rw [t1, o1, cells4] at r1
    rw [t2, o2, cells27] at r2
    rw [t3, o3, cells9] at r3
    rw [t4, o4, cells9] at r4
    match cs, hl with
    | [c0, c1, c2, c3, c4, c5, c6], _ =>
      obtain ⟨a, ea, _⟩ := st_of _ _ _ r0
      obtain ⟨b, eb⟩ := bool_of Try.underlying4 _ _ _ r1
      obtain ⟨q, eq, _⟩ := st_of _ _ _ r2
      obtain ⟨s, es, hs⟩ := str_of Try.underlying9 _ _ _ r3
      obtain ⟨t, et, ht⟩ := str_of Try.underlying9 _ _ _ r4
      simp [BoolC] at ea eb eq es et
      exact ⟨⟨a, b, q, s, t⟩, by simp [nc, bs, ea, eb, eq, es, et], hs, ht⟩
set_option maxRecDepth 100000 in
theorem op_of : ∀ n cs x, DataW.trod enc Try.prog w 0 (fun _ => true) true n 31 cs = some x → ∃ y, OpC cs y := by
  intro n cs x h
  obtain ⟨f0, f1, f2, f3, f4, f5, f6, f7, he, ⟨t0, t1, t2, t3, t4, t5, t6, t7⟩, o0, o1, o2, o3, o4, o5, o6, o7⟩ := struct32
  obtain ⟨xs, m, _, _, hl, hlen, hf⟩ := DataW.trod_struct he h
  rw [cells31] at hl
  match xs, hlen with
  | [y0, y1, y2, y3, y4, y5, y6, y7], _ =>
    have r0 := hf 0 f0 rfl
    have r1 := hf 1 f1 rfl
    have r2 := hf 2 f2 rfl
    have r3 := hf 3 f3 rfl
    have r4 := hf 4 f4 rfl
    have r5 := hf 5 f5 rfl
    have r6 := hf 6 f6 rfl
    have r7 := hf 7 f7 rfl
    rw [t0, o0, cells27] at r0
    rw [t1, o1, cells3] at r1
    rw [t2, o2, cells3] at r2
    rw [t3, o3, cells27] at r3
    rw [t4, o4, cells4] at r4
    rw [t5, o5, cells27] at r5
    rw [t6, o6, cells9] at r6
    rw [t7, o7, cells9] at r7
    match cs, hl with
    | [c0, c1, c2, c3, c4, c5, c6, c7, c8, c9, c10], _ =>
      obtain ⟨a0, e0, _⟩ := st_of _ _ _ r0
      obtain ⟨a1, e1, _⟩ := int_of Try.underlying3 _ _ _ r1
      obtain ⟨a2, e2, _⟩ := int_of Try.underlying3 _ _ _ r2
      obtain ⟨a3, e3, _⟩ := st_of _ _ _ r3
      obtain ⟨a4, e4⟩ := bool_of Try.underlying4 _ _ _ r4
      obtain ⟨a5, e5, _⟩ := st_of _ _ _ r5
      obtain ⟨a6, e6, h6⟩ := str_of Try.underlying9 _ _ _ r6
      obtain ⟨a7, e7, h7⟩ := str_of Try.underlying9 _ _ _ r7
      simp [BoolC] at e0 e1 e2 e3 e4 e5 e6 e7
      exact ⟨⟨a0, a1, a2, a3, a4, a5, a6, a7⟩, by simp [oc, bs, e0, e1, e2, e3, e4, e5, e6, e7], h6, h7⟩
set_option maxRecDepth 100000 in
theorem open_nds (hv : Value.okWide Try.prog w r b0 32 v) (h : DataW.Trod enc Try.prog w 0 (fun _ => true) true 32 v d p) : ∃ A n c xs, v = .slice A n c ∧ Nds w A n c xs := arg_sl (by decide) Try.underlying32 cells38 nd_of hv h
set_option maxRecDepth 100000 in
theorem open_ops (hv : Value.okWide Try.prog w r b0 39 v) (h : DataW.Trod enc Try.prog w 0 (fun _ => true) true 39 v d p) : ∃ A n c xs, v = .slice A n c ∧ Ops w A n c xs := arg_sl (by decide) Try.underlying39 cells31 op_of hv h
set_option maxRecDepth 100000 in
theorem open_stamp (hv : Value.okWide Try.prog w r b0 27 v) (h : DataW.Trod enc Try.prog w 0 (fun _ => true) true 27 v d p) : ∃ s : St, v = sv s := by
  obtain ⟨cs, rfl, hsz⟩ := okWide_struct Try.underlying27 hv
  obtain ⟨n, hn⟩ := h
  obtain ⟨y, e, _⟩ := st_of _ _ _ hn
  refine ⟨y, ?_⟩
  unfold sv
  congr 1
  simp [Value.cells] at e
  apply Array.toList_inj.1
  simpa using e
set_option maxRecDepth 100000 in
theorem open_op (hv : Value.okWide Try.prog w r b0 31 v) (h : DataW.Trod enc Try.prog w 0 (fun _ => true) true 31 v d p) : ∃ x : TOp, v = ov x ∧ OpS x := by
  obtain ⟨cs, rfl, hsz⟩ := okWide_struct Try.underlying31 hv
  obtain ⟨n, hn⟩ := h
  obtain ⟨y, e, h1, h2⟩ := op_of _ _ _ hn
  refine ⟨y, ?_, h1, h2⟩
  unfold ov
  congr 1
  simp [Value.cells] at e
  apply Array.toList_inj.1
  simpa [oc] using e
set_option maxRecDepth 100000 in
theorem open_int (hv : Value.okWide Try.prog w r b0 3 v) (h : DataW.Trod enc Try.prog w 0 (fun _ => true) true 3 v d p) : ∃ x, v = .int .i64 x ∧ I64 x := arg_int Try.underlying3 hv h
set_option maxRecDepth 100000 in
theorem open_ints (hv : Value.okWide Try.prog w r b0 48 v) (h : DataW.Trod enc Try.prog w 0 (fun _ => true) true 48 v d p) : ∃ A n c xs, v = .slice A n c ∧ Sl w 1 IntC A n c xs := arg_sl (by decide) Try.underlying48 (by kernel_rfl) (int_of Try.underlying3) hv h
end
end Go.Proofs.Ytaglomhmnoldlaa.Opens
