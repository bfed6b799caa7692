/- A net in memory: its own block, the row of packets on their way; what an act leaves as it was. -/
import Derived.Test.YtnefjmgpbbgifaaRows
import Derived.Test.YtnefjmgpbbgifaaWords
import Derived.Test.YtnefjmgpbbgifaaBs
import Derived.Laws.LoneSync
import Derived.Deep.RegionHeld3
import Derived.Deep.RegionLaw
import Derived.Deep.Upon
namespace Go.Proofs.Ytnefjmgpbbgifaa
open Go.RowKit

/-- A packet. -/
structure Pk where
  f : Int
  t : Int
  d : List UInt8
deriving DecidableEq
def pc (x : Pk) : List Value := [.int .i64 x.f, .int .i64 x.t, .string (bs x.d)]
/-- the packet as a value -/
def pv (x : Pk) : Value := .agg #[.int .i64 x.f, .int .i64 x.t, .string (bs x.d)]
def pcs (l : List Pk) : List Value := l.flatMap pc
theorem pcs_append (a b : List Pk) : pcs (a ++ b) = pcs a ++ pcs b := by simp [pcs]
theorem pcs_len (l : List Pk) : (pcs l).length = l.length * 3 := by
  induction l with
  | nil => rfl
  | cons x l ih => simp only [pcs, List.flatMap_cons, List.length_append, List.length_cons] at ih ⊢; rw [ih]; simp [pc]; omega
theorem pcs_take (l : List Pk) (k : Nat) : (pcs l).take (k * 3) = pcs (l.take k) := by
  induction l generalizing k with
  | nil => simp [pcs]
  | cons x l ih =>
    cases k with
    | zero => simp [pcs]
    | succ k =>
      have := ih k
      simp only [pcs, List.flatMap_cons, List.take_succ_cons] at this ⊢
      rw [← this]
      simp [pc, Nat.succ_mul, List.take_append]
theorem pcs_at (l : List Pk) (k j : Nat) (hk : k < l.length) (hj : j < 3) : (pcs l)[k * 3 + j]? = (pc l[k])[j]? := by
  induction l generalizing k with
  | nil => simp at hk
  | cons x l ih =>
    cases k with
    | zero =>
      simp only [pcs, List.flatMap_cons]
      rw [List.getElem?_append_left (by simp [pc]; omega)]
      simp
    | succ k =>
      have := ih k (by simpa using hk)
      simp only [pcs, List.flatMap_cons] at this ⊢
      rw [List.getElem?_append_right (by simp [pc]; omega)]
      rw [show (k + 1) * 3 + j - (pc x).length = k * 3 + j from by simp [pc]; omega, this]
      simp

/-- Below the old heap's size only the blocks of S have turned. -/
structure Keeps (S : Nat → Prop) (w w' : World) : Prop where
  os : w'.os = w.os
  tape : w'.tape = w.tape
  output : w'.output = w.output
  size : w.heap.size ≤ w'.heap.size
  block : ∀ i, i < w.heap.size → ¬ S i → w'.heap[i]? = w.heap[i]?
section
variable {S S' : Nat → Prop} {w w1 w2 : World}
theorem kp_refl (S : Nat → Prop) (w : World) : Keeps S w w := ⟨rfl, rfl, rfl, Nat.le_refl _, fun _ _ _ => rfl⟩
theorem kp_trans (h : Keeps S w w1) (k : Keeps S' w1 w2) (hs : ∀ i, i < w.heap.size → S' i → S i) : Keeps S w w2 :=
  ⟨k.os.trans h.os, k.tape.trans h.tape, k.output.trans h.output, Nat.le_trans h.size k.size, fun i hi hn => (k.block i (Nat.lt_of_lt_of_le hi h.size) (fun h => hn (hs i hi h))).trans (h.block i hi hn)⟩
theorem kp_mono (h : Keeps S' w w1) (hs : ∀ i, i < w.heap.size → S' i → S i) : Keeps S w w1 := ⟨h.os, h.tape, h.output, h.size, fun i hi hn => h.block i hi (fun h => hn (hs i hi h))⟩
theorem kp_below (h : Below w.heap.size w w1) : Keeps S w w1 := ⟨h.os, h.tape, h.output, h.size, fun i hi _ => h.block i hi⟩
theorem kp_grown {r : Option Nat} (h : w.grownBy w1 r) (hs : ∀ i, r = some i → S i) : Keeps S w w1 :=
  ⟨h.os, h.tape, h.output, h.size, fun i hi hn => h.block i hi (fun e => hn (hs i e.symm))⟩
theorem kp_drew (h : Keeps S w w1) : Keeps S w w1.drew := ⟨h.os, h.tape, h.output, h.size, h.block⟩
theorem kp_alloc (h : Keeps S w w1) (o : Obj) : Keeps S w (w1.alloc o) := kp_trans h (kp_below (S := fun _ => False) ((Below.refl _ w1).alloc (Nat.le_refl _) o)) (fun _ _ h => h.elim)
theorem kp_set (h : Keeps S w w1) (p : Addr) (v : Value) (hp : p.block < w.heap.size → S p.block) : Keeps S w (w1.setCell p v) :=
  ⟨h.os, h.tape, h.output, by simpa [World.setCell] using h.size, fun i hi hn => (Below.heap_setCell w1 p v i (by rintro rfl; exact hn (hp hi))).trans (h.block i hi hn)⟩
theorem kp_below_of {B : Nat} {w0 : World} (hb : Below B w0 w) (h : Keeps S w w1) (hs : ∀ i, S i → B ≤ i) (hB : B ≤ w.heap.size) : Below B w0 w1 :=
  hb.trans ⟨h.os, h.tape, h.output, h.size, fun k hk => h.block k (by omega) (fun hS => by have := hs k hS; omega)⟩
theorem Blk.kp {g : Nat} {t : TypeId} {cs : Array Value} (h : Blk w g t cs) (k : Keeps S w w1) (hn : ¬ S g) : Blk w1 g t cs := (k.block g h.lt hn).trans h
end

/-- A row of packets: its value, and where it may not lie. -/
structure Way (w : World) (v : Value) (ps : List Pk) : Prop where
  own : w.ownsRow 0 30 3 v ps.length (pcs ps)
  ok : ∀ x ∈ ps, I64 x.f ∧ I64 x.t ∧ x.d.length ≤ 9223372036854775807
theorem own_lt {w : World} {v : Value} {n g : Nat} {xs : List Value} (h : w.ownsRow 0 30 3 v n xs) (hg : v.ownBlock = some g) : g < w.heap.size := by
  rcases h.2 with ⟨rfl, _⟩ | ⟨g', cap, cur, rfl, _, hh, _⟩
  · cases hg
  · cases hg
    exact Blk.lt (t := 30) (cs := cur) hh
theorem own_kp {S : Nat → Prop} {w w' : World} {v : Value} {n : Nat} {xs : List Value} (h : w.ownsRow 0 30 3 v n xs) (k : Keeps S w w') (hn : ∀ g, v.ownBlock = some g → ¬ S g) : w'.ownsRow 0 30 3 v n xs := by
  refine ⟨h.1, ?_⟩
  rcases h.2 with h0 | ⟨g, cap, cur, hv, h0, hh, rest⟩
  · exact .inl h0
  · exact .inr ⟨g, cap, cur, hv, h0, Blk.kp (t := 30) (cs := cur) hh k (hn g (by rw [hv]; rfl)), rest⟩

/-- A net: its block holds the number of devices, the row, how many were sent. -/
structure NetI (w : World) (gN : Nat) (d s : Int) (v : Value) (ps : List Pk) : Prop where
  blk : Blk w gN 55 #[.int .i64 d, v, .int .i64 s]
  own : w.ownsRow 0 30 3 v ps.length (pcs ps)
  far : v.ownBlock ≠ some gN
/-- the blocks of a net -/
def NS (gN : Nat) (v : Value) (i : Nat) : Prop := i = gN ∨ v.ownBlock = some i
section
variable {w w' : World} {gN : Nat} {d s : Int} {v : Value} {ps : List Pk}
theorem NetI.c0 (h : NetI w gN d s v ps) : w.cell? ⟨gN, 0, none⟩ = some (.int .i64 d) := by rw [h.blk.cell]; rfl
theorem NetI.c1 (h : NetI w gN d s v ps) : w.cell? ⟨gN, 1, none⟩ = some v := by rw [h.blk.cell]; rfl
theorem NetI.c2 (h : NetI w gN d s v ps) : w.cell? ⟨gN, 2, none⟩ = some (.int .i64 s) := by rw [h.blk.cell]; rfl
theorem NetI.lt (h : NetI w gN d s v ps) : gN < w.heap.size := h.blk.lt
theorem NetI.slice (h : NetI w gN d s v ps) : ∃ A c, v = .slice A ps.length c := by
  rcases h.own.2 with ⟨e, e2⟩ | ⟨g, cap, cur, e, _⟩
  · exact ⟨none, 0, by rw [e, e2]⟩
  · exact ⟨_, cap, e⟩
theorem NetI.kp {S : Nat → Prop} (h : NetI w gN d s v ps) (k : Keeps S w w') (hn : ∀ i, S i → ¬ NS gN v i) : NetI w' gN d s v ps :=
  ⟨h.blk.kp k (fun hS => hn _ hS (Or.inl rfl)), own_kp h.own k (fun _ hg hS => hn _ hS (Or.inr hg)), h.far⟩
theorem NetI.below (h : NetI w gN d s v ps) (hb : Below w.heap.size w w') : NetI w' gN d s v ps := h.kp (kp_below (S := fun _ => False) hb) (fun _ h => h.elim)
/-- a packet's cells -/
theorem NetI.at (h : NetI w gN d s v ps) {k : Nat} (hk : k < ps.length) : ∃ g cap, v = .slice (some ⟨g, 0, none⟩) ps.length cap ∧ g ≠ gN ∧ g < w.heap.size ∧
    w.cell? ⟨g, k * 3, none⟩ = some (.int .i64 ps[k].f) ∧ w.cell? ⟨g, k * 3 + 1, none⟩ = some (.int .i64 ps[k].t) ∧ w.cell? ⟨g, k * 3 + 2, none⟩ = some (.string (bs ps[k].d)) := by
  rcases h.own.2 with ⟨_, e2⟩ | ⟨g, cap, cur, rfl, _, hh, hle, hmx, hsz, htk⟩
  · omega
  · have hB : Blk w g 30 cur := hh
    have key : ∀ j, j < 3 → w.cell? ⟨g, k * 3 + j, none⟩ = (pc ps[k])[j]? := fun j hj => by
      rw [hB.cell, ← pcs_at ps k j hk hj, ← htk, List.getElem?_take_of_lt (by omega), Array.getElem?_toList]
    refine ⟨g, cap, rfl, fun e => h.far (by rw [e]; rfl), hB.lt, ?_, ?_, ?_⟩
    · exact key 0 (by omega)
    · exact key 1 (by omega)
    · exact key 2 (by omega)
end
end Go.Proofs.Ytnefjmgpbbgifaa
