/- Words for the document's Do: where a node is put; what of a list is handed to append. -/
import Derived.Test.YtaglomhmnoldlaaX1
namespace Go.Proofs.Ytaglomhmnoldlaa
open Go.RowKit
attribute [local go_sem] bs_size bs_getElem bs_list bs_append

theorem atN_is {xs : List Nd} {s : St} {k : Nat} (hk : k < xs.length) (h : lessS s xs[k].id = true) (hall : ∀ j (hj : j < xs.length), j < k → lessS s xs[j].id = false) : atN xs s = k := by
  unfold atN
  have : xs.findIdx? (fun z => lessS s z.id) = some k := by
    rw [List.findIdx?_eq_some_iff_getElem]
    exact ⟨hk, h, fun j hj => by rw [hall j (by omega) hj]; simp⟩
  rw [this]; rfl
theorem atN_all {xs : List Nd} {s : St} (hall : ∀ j (hj : j < xs.length), lessS s xs[j].id = false) : atN xs s = xs.length := by
  unfold atN
  have : xs.findIdx? (fun z => lessS s z.id) = none := by
    rw [List.findIdx?_eq_none_iff]
    intro x hx
    obtain ⟨j, hj, rfl⟩ := List.mem_iff_getElem.1 hx
    exact hall j hj
  rw [this]; rfl
theorem Nds.take_ {w : World} {A : Option Addr} {n c : Nat} {xs : List Nd} (h : Nds w A n c xs) {k : Nat} (hk : k ≤ n) : Nds w A k c (xs.take k) :=
  ⟨by rw [List.length_take, h.len]; omega, Nat.le_trans hk h.le, h.max, fun i hi => by
    rw [List.length_take] at hi
    obtain ⟨b, off, cs, e, hlt, hl, hr, hc⟩ := h.4 i (by omega)
    exact ⟨b, off, cs, e, hlt, hl, by simpa using hr, hc⟩⟩
theorem src_nds_take {w : World} {A : Option Addr} {n c : Nat} {xs : List Nd} (h : Nds w A n c xs) {k : Nat} (hk : k ≤ n) : Src Try.prog 7 32 (.slice A k c) k (ncs (xs.take k)) w := Src.nds (h.take_ hk)
theorem Nds.drop_ {w : World} {b off n c : Nat} {xs : List Nd} (h : Nds w (some ⟨b, off, none⟩) n c xs) {k : Nat} (hk : k ≤ n) : Nds w (some ⟨b, off + k * 7, none⟩) (n - k) (c - k) (xs.drop k) :=
  ⟨by rw [List.length_drop, h.len], by have := h.le; omega, by have := h.max; omega, fun i hi => by
    rw [List.length_drop] at hi
    obtain ⟨b2, off2, cs, e, hlt, hl, hr, hc⟩ := h.4 (k + i) (by omega)
    cases e
    exact ⟨b, off + k * 7, cs, rfl, hlt, hl, by simpa using hr, fun j u hu => by
      have := hc j u hu
      rwa [show off + (k + i) * 7 + j = off + k * 7 + i * 7 + j by rw [Nat.add_mul]; omega] at this⟩⟩
theorem src_nds_none {w : World} {A : Option Addr} {c : Nat} : Src Try.prog 7 32 (.slice A 0 c) 0 [] w := by
  cases A with
  | none => exact Src.ofNil w Try.underlying32 c
  | some a => exact Src.ofSlice w Try.underlying32 a 0 c [] rfl (fun j u hu => by simp at hu) (fun u hu => by cases hu)
end Go.Proofs.Ytaglomhmnoldlaa
