/- Arguments opened: a slice, a struct of two integers, into the words of the walks. -/
import Derived.Test.YtaglomhmnoldlaaWords
import Derived.ProofKit
import Derived.OpenShut
namespace Go.Proofs.Ytaglomhmnoldlaa.Opens
open Go.ChangeShapes Go.WideShapes Go.ChangeAt Go.RowKit

section
variable {H : Type} {enc : TypeId × Value → H} {P : Program} {w : World}
theorem sl_of {α : Type} [Inhabited α] {size : Nat} (hs : 0 < size) {R : List Value → α → Prop} {t e : TypeId} {fuel : Nat} {cs : List Value} {x : DataW H × List MemPlace} (ht : P.underlying t = some (.slice e)) (hc : P.cellsOf e = size)
    (helem : ∀ n cs x, DataW.trod enc P w 0 (fun _ => true) true n e cs = some x → ∃ y, R cs y) (h : DataW.trod enc P w 0 (fun _ => true) true fuel t cs = some x) :
    ∃ A n c xs, cs = [.slice A n c] ∧ Sl w size R A n c xs := by
  rcases Go.Deep.open_slice ht h with ⟨rfl, _⟩ | ⟨a, len, cap, m, n, D, Pl, rfl, _, hl, hm, hmm, _, hx⟩
  · exact ⟨none, 0, 0, [], rfl, Sl.nil_⟩
  simp only [if_true] at hmm
  obtain ⟨f, hf⟩ := Go.Deep.choose_lt (n := len) (p := fun i y => ∃ cs', w.cells? 0 (a.add (i * P.cellsOf e)) (P.cellsOf e) = some cs' ∧ R cs' y) (fun i hi => by
    obtain ⟨cs', h1, h2⟩ := hx i (by omega)
    obtain ⟨y, hy⟩ := helem _ _ _ h2
    exact ⟨y, cs', h1, hy⟩)
  refine ⟨some a, len, cap, (List.range len).map f, rfl, by simp, hl, by unfold maxLen at hm; omega, fun i hi => ?_⟩
  have hi' : i < len := by simpa using hi
  obtain ⟨cs', h1, hy⟩ := hf i hi'
  obtain ⟨_, hlen, hcell⟩ := World.cells?_some h1
  rw [hc] at hlen hcell
  obtain ⟨b, off, spot⟩ := a
  have h0 := hcell 0 hs
  rw [List.getElem?_eq_getElem (by omega)] at h0
  have hsp : spot = none := by
    obtain ⟨cs0, h1, _⟩ := hf 0 (by omega)
    obtain ⟨_, hlen, hcell⟩ := World.cells?_some h1
    rw [hc] at hlen hcell
    have h0 := hcell 0 hs
    rw [List.getElem?_eq_getElem (by omega), add_of_add] at h0
    have := World.cell?_spot h0
    simpa [Addr.add] using this
  subst hsp
  have hadd : ∀ j, (Addr.mk b off none).add j = ⟨b, off + j, none⟩ := fun j => by unfold Addr.add; split <;> simp_all
  refine ⟨b, off, cs', rfl, ?_, hlen, by simpa using hy, fun j u hu => ?_⟩
  · rcases Nat.lt_or_ge b w.heap.size with h | h
    · exact h
    · rw [add_of_add, hadd] at h0
      simp [World.cell?, Array.getElem?_eq_none h] at h0
  · have hj : j < size := by
      rcases Nat.lt_or_ge j size with h | h
      · exact h
      · rw [List.getElem?_eq_none (by omega)] at hu; cases hu
    have := hcell j hj
    rw [add_of_add, hadd, hu] at this
    rw [← this]; congr 2; omega

theorem int_of {e : TypeId} (he : P.underlying e = some (.int .i64)) : ∀ n cs x, DataW.trod enc P w 0 (fun _ => true) true n e cs = some x → ∃ y, IntC cs y := by
  intro n cs x h
  obtain ⟨y, rfl, _, hw⟩ := DataW.trod_int he h
  refine ⟨y, rfl, ?_⟩
  have := hw
  simp [Lit.wf, IntKind.min, IntKind.max, IntKind.signed, IntKind.bits] at this
  unfold I64; omega
theorem stamp_of {e ti : TypeId} {f0 f1 : Field} (he : P.underlying e = some (.struct #[f0, f1])) (hc : P.cellsOf e = 2) (h0 : f0.type = ti) (h1 : f1.type = ti) (o0 : f0.offset = 0) (o1 : f1.offset = 1) (hci : P.cellsOf ti = 1) (hi : P.underlying ti = some (.int .i64)) :
    ∀ n cs x, DataW.trod enc P w 0 (fun _ => true) true n e cs = some x → ∃ y, StampC cs y := by
  intro n cs x h
  obtain ⟨y0, y1, m, _, hl, t0, t1⟩ := trod_struct2 he h
  rw [hc] at hl
  rw [h0, o0, hci] at t0
  rw [h1, o1, hci] at t1
  match cs, hl with
  | [c0, c1], _ =>
    obtain ⟨a, ea, ra⟩ := int_of hi _ _ _ t0
    obtain ⟨b, eb, rb⟩ := int_of hi _ _ _ t1
    simp at ea eb
    exact ⟨(a, b), by simp [ea, eb], ra, rb⟩
end

section
variable {H : Type} {enc : TypeId × Value → H} {P : Program} {w : World}
def BoolC (cs : List Value) (b : Bool) : Prop := cs = [.bool b]
def StrC (cs : List Value) (s : List UInt8) : Prop := cs = [.string ⟨s.toArray⟩] ∧ s.length ≤ 9223372036854775807
theorem bool_of {e : TypeId} (he : P.underlying e = some .bool) : ∀ n cs x, DataW.trod enc P w 0 (fun _ => true) true n e cs = some x → ∃ y, BoolC cs y := by
  intro n cs x h
  obtain ⟨y, rfl, _⟩ := DataW.trod_bool he h
  exact ⟨y, rfl⟩
theorem str_of {e : TypeId} (he : P.underlying e = some .string) : ∀ n cs x, DataW.trod enc P w 0 (fun _ => true) true n e cs = some x → ∃ y, StrC cs y := by
  intro n cs x h
  obtain ⟨s, rfl, _, hw⟩ := DataW.trod_string he h
  refine ⟨s.data.toList, by simp, ?_⟩
  unfold maxLen at hw
  simpa using hw
theorem arg_int {r : Reach} {b0 : Nat} {t : TypeId} (ht : P.underlying t = some (.int .i64)) {v : Value} {d : DataW H} {p : List MemPlace} (hv : Value.okWide P w r b0 t v) (h : DataW.Trod enc P w 0 (fun _ => true) true t v d p) : ∃ x, v = .int .i64 x ∧ I64 x := by
  obtain ⟨x, rfl, _, _, wx⟩ := ChangeShapes.open_int ht hv h
  refine ⟨x, rfl, ?_⟩
  simp [Lit.wf, IntKind.min, IntKind.max, IntKind.signed, IntKind.bits] at wx
  unfold I64; omega
theorem arg_bool {r : Reach} {b0 : Nat} {t : TypeId} (ht : P.underlying t = some .bool) {v : Value} {d : DataW H} {p : List MemPlace} (hv : Value.okWide P w r b0 t v) (h : DataW.Trod enc P w 0 (fun _ => true) true t v d p) : ∃ x, v = .bool x := by
  obtain ⟨x, rfl, _⟩ := RowKit.open_bool ht hv h
  exact ⟨x, rfl⟩
theorem arg_str {r : Reach} {b0 : Nat} {t : TypeId} (ht : P.underlying t = some .string) {v : Value} {d : DataW H} {p : List MemPlace} (hv : Value.okWide P w r b0 t v) (h : DataW.Trod enc P w 0 (fun _ => true) true t v d p) : ∃ s : List UInt8, v = .string ⟨s.toArray⟩ ∧ s.length ≤ 9223372036854775807 := by
  obtain ⟨s, rfl, _, _, hw⟩ := ChangeMaps.open_string ht hv h
  refine ⟨s.data.toList, by simp, ?_⟩
  unfold maxLen at hw
  simpa using hw
theorem arg_sl {α : Type} [Inhabited α] {size : Nat} (hs : 0 < size) {R : List Value → α → Prop} {t e : TypeId} (ht : P.underlying t = some (.slice e)) (hc : P.cellsOf e = size)
    (helem : ∀ n cs x, DataW.trod enc P w 0 (fun _ => true) true n e cs = some x → ∃ y, R cs y) {r : Reach} {b0 : Nat} {v : Value} {d : DataW H} {p : List MemPlace} (hv : Value.okWide P w r b0 t v) (h : DataW.Trod enc P w 0 (fun _ => true) true t v d p) :
    ∃ A n c xs, v = .slice A n c ∧ Sl w size R A n c xs := by
  obtain ⟨a, l, c, rfl⟩ := okWide_slice ht hv
  obtain ⟨n, hn⟩ := h
  obtain ⟨A, m, c, xs, e, hs⟩ := sl_of hs ht hc helem hn
  exact ⟨A, m, c, xs, by simpa [Value.cells] using e, hs⟩
end
end Go.Proofs.Ytaglomhmnoldlaa.Opens
