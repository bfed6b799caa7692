/- The walk of slices.DeleteFunc. -/
import Derived.Test.YtnefjmgpbbgifaaK
namespace Go.Proofs.Ytnefjmgpbbgifaa
open Go.RowKit
attribute [local go_sem] bs_size bs_getElem bs_list bs_append

def keptL (who : Int) (ps : List Pk) : List Pk := ps.filter fun x => !cutB who x
theorem kept_succ (who : Int) (ps : List Pk) (j : Nat) (h : j < ps.length) : keptL who (ps.take (j + 1)) = keptL who (ps.take j) ++ (if cutB who ps[j] then [] else [ps[j]]) := by
  unfold keptL
  rw [List.take_succ_eq_append_getElem h, List.filter_append]
  congr 1
  cases hc : cutB who ps[j] <;> simp [hc]
theorem kept_len (who : Int) (ps : List Pk) (j : Nat) : (keptL who (ps.take j)).length ≤ j := Nat.le_trans (List.length_filter_le _ _) (by rw [List.length_take]; omega)
theorem first_none {who : Int} {ps : List Pk} (h : firstC who ps = -1) : keptL who ps = ps := by
  unfold firstC at h
  cases hf : ps.findIdx? (cutB who) with
  | some i => rw [hf] at h; simp at h
  | none =>
    rw [List.findIdx?_eq_none_iff] at hf
    unfold keptL
    rw [List.filter_eq_self]
    intro x hx; simp [hf x hx]
theorem first_some {who : Int} {ps : List Pk} (h : firstC who ps ≠ -1) : ∃ (i : Nat) (hi : i < ps.length), firstC who ps = i ∧ cutB who ps[i] = true ∧ keptL who (ps.take (i + 1)) = ps.take i := by
  unfold firstC at h ⊢
  cases hf : ps.findIdx? (cutB who) with
  | none => rw [hf] at h; exact absurd rfl h
  | some i =>
    obtain ⟨hi, hc, hall⟩ := List.findIdx?_eq_some_iff_getElem.1 hf
    refine ⟨i, hi, rfl, hc, ?_⟩
    rw [kept_succ who ps i hi, hc, if_pos rfl, List.append_nil]
    unfold keptL
    rw [List.filter_eq_self]
    intro x hx
    obtain ⟨j, hj, rfl⟩ := List.mem_iff_getElem.1 hx
    have hj' : j < i := by rw [List.length_take] at hj; omega
    rw [List.getElem_take]
    have := hall j hj'
    simp at this
    simp [this]

/-- block g in the midst of DeleteFunc: the kept packets first, from place j on as it was -/
structure Mid (w wr : World) (g cap : Nat) (ps ks : List Pk) (j : Nat) : Prop where
  ex : ∃ cur, Blk wr g 30 cur ∧ cur.size = cap * 3 ∧ (∀ t, t < ks.length * 3 → cur[t]? = (pcs ks)[t]?) ∧ (∀ t, j * 3 ≤ t → t < ps.length * 3 → cur[t]? = (pcs ps)[t]?)
  grown : w.grownBy wr (some g)
section
variable {w wr wr' : World} {g cap j : Nat} {ps ks : List Pk}
theorem Mid.below (h : Mid w wr g cap ps ks j) (hb : Below wr.heap.size wr wr') : Mid w wr' g cap ps ks j := by
  obtain ⟨cur, h1, h2⟩ := h.ex
  exact ⟨⟨cur, h1.below hb h1.lt, h2⟩, gb_below h.grown hb⟩
theorem Mid.next (h : Mid w wr g cap ps ks j) : Mid w wr g cap ps ks (j + 1) := by
  obtain ⟨cur, h1, h2, h3, h4⟩ := h.ex
  exact ⟨⟨cur, h1, h2, h3, fun t ht => h4 t (by omega)⟩, h.grown⟩
theorem Mid.cells (h : Mid w wr g cap ps ks j) (hj : j < ps.length) : wr.cell? ⟨g, j * 3, none⟩ = some (.int .i64 ps[j].f) ∧ wr.cell? ⟨g, j * 3 + 1, none⟩ = some (.int .i64 ps[j].t) ∧ wr.cell? ⟨g, j * 3 + 2, none⟩ = some (.string (bs ps[j].d)) := by
  obtain ⟨cur, h1, h2, h3, h4⟩ := h.ex
  have key : ∀ i, i < 3 → wr.cell? ⟨g, j * 3 + i, none⟩ = (pc ps[j])[i]? := fun i hi => by rw [h1.cell, h4 _ (by omega) (by omega), pcs_at ps j i hj hi]
  exact ⟨key 0 (by omega), key 1 (by omega), key 2 (by omega)⟩
theorem Mid.lt (h : Mid w wr g cap ps ks j) : g < wr.heap.size := by obtain ⟨cur, h1, _⟩ := h.ex; exact h1.lt
theorem Mid.some_ (h : Mid w wr g cap ps ks j) {i : Nat} (hi : i < cap * 3) : ∃ v, wr.cell? ⟨g, i, none⟩ = some v := by
  obtain ⟨cur, h1, h2, _⟩ := h.ex
  exact ⟨cur[i]'(by omega), by rw [h1.cell, Array.getElem?_eq_getElem (by omega)]⟩
theorem Mid.frozen (h : Mid w wr g cap ps ks j) (i : Nat) : wr.frozen? ⟨g, i, none⟩ = false := by obtain ⟨cur, h1, _⟩ := h.ex; exact h1.frozen i
/-- packet x laid behind the kept ones -/
theorem Mid.put (h : Mid w wr g cap ps ks j) (x : Pk) (hk : ks.length < j) (hj : j ≤ cap) :
    Mid w (((wr.setCell ⟨g, ks.length * 3, none⟩ (.int .i64 x.f)).setCell ⟨g, ks.length * 3 + 1, none⟩ (.int .i64 x.t)).setCell ⟨g, ks.length * 3 + 2, none⟩ (.string (bs x.d))) g cap ps (ks ++ [x]) j := by
  obtain ⟨cur, h1, h2, h3, h4⟩ := h.ex
  refine ⟨⟨_, ((h1.set_ (ks.length * 3) (.int .i64 x.f)).set_ (ks.length * 3 + 1) (.int .i64 x.t)).set_ (ks.length * 3 + 2) (.string (bs x.d)), by simp [h2], fun t ht => ?_, fun t ht1 ht2 => ?_⟩, gb_setCell (gb_setCell (gb_setCell h.grown (Or.inl rfl) _) (Or.inl rfl) _) (Or.inl rfl) _⟩
  · simp only [Array.getElem?_setIfInBounds, Array.size_setIfInBounds]
    rw [pcs_append]
    have hl := pcs_len ks
    have hx : pcs [x] = [.int .i64 x.f, .int .i64 x.t, .string (bs x.d)] := by simp [pcs, pc]
    rcases Nat.lt_or_ge t (ks.length * 3) with h | h
    · rw [if_neg (by omega), if_neg (by omega), if_neg (by omega), h3 t h, List.getElem?_append_left (by omega)]
    · rw [List.getElem?_append_right (by omega), hl, hx]
      have : t = ks.length * 3 ∨ t = ks.length * 3 + 1 ∨ t = ks.length * 3 + 2 := by simp at ht; omega
      rcases this with rfl | rfl | rfl
      · rw [if_neg (by omega), if_neg (by omega), if_pos rfl, if_pos (by omega)]; simp
      · rw [if_neg (by omega), if_pos rfl, if_pos (by omega)]; simp
      · rw [if_pos rfl, if_pos (by omega)]; simp
  · simp only [Array.getElem?_setIfInBounds]
    rw [if_neg (by omega), if_neg (by omega), if_neg (by omega)]
    exact h4 t ht1 ht2
end
end Go.Proofs.Ytnefjmgpbbgifaa
