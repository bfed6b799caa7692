/- The document's net: New, Send. -/
import Derived.Test.YtnefjmgpbbgifaaO
import Derived.Test.YtnefjmgpbbgifaaOwnC
namespace Go.Proofs.Ytnefjmgpbbgifaa
open Go.RowKit
attribute [local go_sem] bs_size bs_getElem bs_list bs_append

/-- The document's net: its block holds the row, how many were sent, the number of devices. -/
structure RefI (w : World) (gR : Nat) (d s : Int) (v : Value) (ps : List Pk) : Prop where
  blk : Blk w gR 45 #[v, .int .i64 s, .int .i64 d]
  own : w.ownsRow 0 30 3 v ps.length (pcs ps)
  far : v.ownBlock ≠ some gR
section
variable {w w' : World} {gR : Nat} {d s : Int} {v : Value} {ps : List Pk}
theorem RefI.c0 (h : RefI w gR d s v ps) : w.cell? ⟨gR, 0, none⟩ = some v := by rw [h.blk.cell]; rfl
theorem RefI.c1 (h : RefI w gR d s v ps) : w.cell? ⟨gR, 1, none⟩ = some (.int .i64 s) := by rw [h.blk.cell]; rfl
theorem RefI.c2 (h : RefI w gR d s v ps) : w.cell? ⟨gR, 2, none⟩ = some (.int .i64 d) := by rw [h.blk.cell]; rfl
theorem RefI.lt (h : RefI w gR d s v ps) : gR < w.heap.size := h.blk.lt
theorem RefI.slice (h : RefI w gR d s v ps) : ∃ A c, v = .slice A ps.length c ∧ ps.length ≤ c ∧ c ≤ maxLen := by
  rcases h.own.2 with ⟨e, e2⟩ | ⟨g, cap, cur, e, _, _, hle, hmx, _⟩
  · exact ⟨none, 0, by rw [e, e2], by omega, by unfold maxLen; omega⟩
  · exact ⟨_, cap, e, hle, hmx⟩
theorem RefI.kp {S : Nat → Prop} (h : RefI w gR d s v ps) (k : Keeps S w w') (hn : ∀ i, S i → ¬ NS gR v i) : RefI w' gR d s v ps :=
  ⟨h.blk.kp k (fun hS => hn _ hS (Or.inl rfl)), own_kp h.own k (fun _ hg hS => hn _ hS (Or.inr hg)), h.far⟩
theorem RefI.below (h : RefI w gR d s v ps) (hb : Below w.heap.size w w') : RefI w' gR d s v ps := h.kp (kp_below (S := fun _ => False) hb) (fun _ h => h.elim)
theorem RefI.at (h : RefI w gR d s v ps) {k : Nat} (hk : k < ps.length) : ∃ g cap, v = .slice (some ⟨g, 0, none⟩) ps.length cap ∧ g ≠ gR ∧ g < w.heap.size ∧
    w.cell? ⟨g, k * 3, none⟩ = some (.int .i64 ps[k].f) ∧ w.cell? ⟨g, k * 3 + 1, none⟩ = some (.int .i64 ps[k].t) ∧ w.cell? ⟨g, k * 3 + 2, none⟩ = some (.string (bs ps[k].d)) := by
  rcases h.own.2 with ⟨_, e2⟩ | ⟨g, cap, cur, rfl, _, hh, hle, hmx, hsz, htk⟩
  · omega
  · have hB : Blk w g 30 cur := hh
    have key : ∀ j, j < 3 → w.cell? ⟨g, k * 3 + j, none⟩ = (pc ps[k])[j]? := fun j hj => by
      rw [hB.cell, ← pcs_at ps k j hk hj, ← htk, List.getElem?_take_of_lt (by omega), Array.getElem?_toList]
    exact ⟨g, cap, rfl, fun e => h.far (by rw [e]; rfl), hB.lt, key 0 (by omega), key 1 (by omega), key 2 (by omega)⟩
theorem not_rs (h : RefI w gR d s v ps) {P : Nat} (hP : w.heap.size ≤ P) : ¬ NS gR v P := by
  rintro (rfl | hi)
  · have := h.lt; omega
  · have := own_lt h.own hi; omega
end

set_option maxHeartbeats 400000 in
theorem rnew_ok (d : Int) (h1 : 1 ≤ d) (h2 : d ≤ 15) (w : World) :
    Calls Try.prog 16 #[.int .i64 d] w fun e w' => ∃ gR, e = .returned (.tuple #[.pointer (some ⟨gR, 0, none⟩), .int .i64 0]) ∧ RefI w' gR d 0 (.slice none 0 0) [] ∧ Below w.heap.size w w' ∧ w.heap.size ≤ gR := by
  have hd1 : decide (d < 1) = false := decide_eq_false (by omega)
  have hd2 : decide (d > 15) = false := decide_eq_false (by omega)
  go_enter Try.func16, Try.ntmps16
  go_wp2_with fail
  go_ret2
  exact ⟨_, rfl, ⟨Blk.new _ _ _, ⟨by simp [pcs], .inl ⟨rfl, rfl⟩⟩, by simp [Value.ownBlock]⟩, (Below.refl _ w).alloc (Nat.le_refl _) _, Nat.le_refl _⟩

set_option maxHeartbeats 400000 in
theorem rnew_bad (d : Int) (h : d < 1 ∨ 15 < d) (w : World) :
    Calls Try.prog 16 #[.int .i64 d] w fun e w' => e = .returned (.tuple #[.pointer none, .int .i64 1]) ∧ w = w' := by
  by_cases h1 : d < 1
  · have hd1 : decide (d < 1) = true := decide_eq_true h1
    go_enter Try.func16, Try.ntmps16
    go_wp2_with fail
    go_ret2
    exact ⟨rfl, rfl⟩
  · have hd1 : decide (d < 1) = false := decide_eq_false h1
    have hd2 : decide (d > 15) = true := decide_eq_true (by omega)
    go_enter Try.func16, Try.ntmps16
    go_wp2_with fail
    go_ret2
    exact ⟨rfl, rfl⟩
end Go.Proofs.Ytnefjmgpbbgifaa
