/- The walk of the document's writer of numbers. -/
import Derived.Test.YtnfbakldpjmbnaaCdC
import Derived.Laws.AppendOwnNone
namespace Go.Proofs.Ytnfbakldpjmbnaa.Cd
open Go.RowKit
attribute [local go_sem] bs_size bs_getElem bs_list

def dv (l : List Nat) : List Value := l.map fun (d : Nat) => Value.int .u8 (d : Int)
theorem dv_one (l : List Nat) : ∀ u ∈ dv l, u.oneCell' = true := by
  intro u hu
  obtain ⟨d, _, rfl⟩ := List.mem_map.1 hu
  rfl
theorem own_some {w : World} {B : Nat} {v : Value} {n : Nat} {xs : List Value} (h : w.ownsRow B 5 1 v n xs) (hn : 0 < n) :
    ∃ g cap, v = .slice (some ⟨g, 0, none⟩) n cap ∧ B ≤ g ∧ g < w.heap.size ∧ ∀ j u, xs[j]? = some u → w.cell? ((Addr.mk g 0 none).add j) = some u := by
  rcases h.2 with ⟨rfl, rfl⟩ | ⟨g, cap, cur, rfl, hg, hh, hle, hmx, hsz, htk⟩
  · omega
  · have hB : Blk w g 5 cur := hh
    refine ⟨g, cap, rfl, hg, hB.lt, fun j u hu => ?_⟩
    have hadd : (Addr.mk g 0 none).add j = ⟨g, j, none⟩ := by unfold Addr.add; split <;> simp_all
    rw [hadd, hB.cell]
    rw [← htk, List.getElem?_take] at hu
    split at hu
    · rw [← hu]; simp
    · cases hu
theorem own_nil {w : World} {B : Nat} {v : Value} {xs : List Value} (h : w.ownsRow B 5 1 v 0 xs) : ∃ a cap, v = .slice a 0 cap := by
  rcases h.2 with ⟨rfl, _⟩ | ⟨g, cap, cur, rfl, _⟩
  · exact ⟨_, _, rfl⟩
  · exact ⟨_, _, rfl⟩
theorem own_far {w w' : World} {B : Nat} {v : Value} {n : Nat} {xs : List Value} (h : w.ownsRow B 5 1 v n xs) (hb : ∀ g, v.ownBlock = some g → w'.heap[g]? = w.heap[g]?) : w'.ownsRow B 5 1 v n xs := by
  refine ⟨h.1, ?_⟩
  rcases h.2 with h2 | ⟨g, cap, cur, rfl, hg, hh, r⟩
  · exact .inl h2
  · exact .inr ⟨g, cap, cur, rfl, hg, (hb g rfl).trans hh, r⟩
theorem own_lt {w : World} {B : Nat} {v : Value} {n : Nat} {xs : List Value} (h : w.ownsRow B 5 1 v n xs) {g : Nat} (hg : v.ownBlock = some g) : g < w.heap.size ∧ B ≤ g := by
  rcases h.2 with ⟨rfl, _⟩ | ⟨g', cap, cur, rfl, hge, hh, _⟩
  · cases hg
  · cases hg
    exact ⟨Blk.lt (t := 5) (cs := cur) hh, hge⟩

end Go.Proofs.Ytnfbakldpjmbnaa.Cd
