/- Manifests in plain words; lists of strings in memory. -/
import Derived.Test.YtnfbakldpjmbnaaCut
import Derived.Test.YtnfbakldpjmbnaaCdG
import Derived.Test.YtnfbakldpjmbnaaCdF
import Derived.Test.YtnfbakldpjmbnaaShSumL
import Derived.Test.YtnfbakldpjmbnaaBld
namespace Go.Proofs.Ytnfbakldpjmbnaa
open Go.RowKit

/-- the key of a piece -/
def keyL (s : List UInt8) : List UInt8 := (sumL s).take 32
theorem keyL_len (s : List UInt8) : (keyL s).length = 32 := by unfold keyL; rw [List.length_take, sumL_len]; rfl
theorem piece_len (d : List UInt8) (k : Nat) : (piece d k).length ≤ 256 := by unfold piece; rw [List.length_take]; omega
theorem pieces_pos {n : Nat} (h : 0 < n) : 0 < pieces n := by unfold pieces; omega
theorem cutL_length (d : List UInt8) : (cutL d).length = pieces d.length := by simp [cutL]
theorem cutL_at {d : List UInt8} {k : Nat} (h : k < (cutL d).length) : (cutL d)[k] = piece d k := by simp [cutL]
theorem cutL_take {d : List UInt8} {k : Nat} (h : k ≤ (cutL d).length) : (cutL d).take k = (List.range k).map (piece d) := by
  rw [cutL_length] at h
  unfold cutL
  rw [← List.map_take, List.take_range, Nat.min_eq_left h]
/-- a manifest -/
def manL (d : List UInt8) : List UInt8 := Cd.numL d.length ++ (cutL d).flatMap keyL
/-- the keys in bytes -/
def key32 (r : List UInt8) (k : Nat) : List UInt8 := (r.drop (32 * k)).take 32
def cut32 (r : List UInt8) (k : Nat) : List (List UInt8) := (List.range k).map (key32 r)
/-- what bytes are a manifest: of n bytes, the keys -/
def Good (m : List UInt8) (n : Nat) (r : List UInt8) : Prop := Cd.rnumR m = (r, 0, n) ∧ 1 ≤ n ∧ n ≤ 4096 ∧ r.length = 32 * pieces n
def keysL (m : List UInt8) : List (List UInt8) × Int × Int :=
  if m = [] then ([], 0, 0)
  else if (Cd.rnumR m).2.1 = 0 ∧ 1 ≤ Cd.toI (Cd.rnumR m).2.2 ∧ Cd.toI (Cd.rnumR m).2.2 ≤ 4096 ∧ (Cd.rnumR m).1.length = 32 * pieces (Cd.rnumR m).2.2 then (cut32 (Cd.rnumR m).1 (pieces (Cd.rnumR m).2.2), Cd.toI (Cd.rnumR m).2.2, 0)
  else ([], 0, 11)
theorem keysL_nil : keysL [] = ([], 0, 0) := rfl
theorem keysL_ok {m : List UInt8} (h : m ≠ []) (h1 : (Cd.rnumR m).2.1 = 0) (h2 : 1 ≤ Cd.toI (Cd.rnumR m).2.2) (h3 : Cd.toI (Cd.rnumR m).2.2 ≤ 4096) (h4 : (Cd.rnumR m).1.length = 32 * pieces (Cd.rnumR m).2.2) :
    keysL m = (cut32 (Cd.rnumR m).1 (pieces (Cd.rnumR m).2.2), Cd.toI (Cd.rnumR m).2.2, 0) := by unfold keysL; rw [if_neg h, if_pos ⟨h1, h2, h3, h4⟩]
theorem keysL_no {m : List UInt8} (h : m ≠ []) (h1 : ¬ ((Cd.rnumR m).2.1 = 0 ∧ 1 ≤ Cd.toI (Cd.rnumR m).2.2 ∧ Cd.toI (Cd.rnumR m).2.2 ≤ 4096 ∧ (Cd.rnumR m).1.length = 32 * pieces (Cd.rnumR m).2.2)) : keysL m = ([], 0, 11) := by unfold keysL; rw [if_neg h, if_neg h1]
theorem toI_small {u : Nat} (hu : u < 18446744073709551616) (h1 : 1 ≤ Cd.toI u) (h2 : Cd.toI u ≤ 4096) : Cd.toI u = u := by unfold Cd.toI at *; omega
theorem rnumR_small (m : List UInt8) : (Cd.rnumR m).2.2 < 18446744073709551616 := Cd.rnumR_lt m
/-- the file of a manifest and pieces -/
def okAt (n : Int) (s k : List UInt8) (i : Nat) : Bool := decide ((s.length : Int) = (if n - 256 * i < 256 then n - 256 * i else 256)) && decide (keyL s = k)
def okAll (n : Int) (l ks : List (List UInt8)) : Prop := ∀ i (h : i < l.length) (h' : i < ks.length), okAt n l[i] ks[i] i = true
open Classical in
noncomputable def joinL (m : List UInt8) (l : List (List UInt8)) : List UInt8 × Int :=
  if (keysL m).2.2 ≠ 0 then ([], (keysL m).2.2)
  else if l.length ≠ (keysL m).1.length then ([], 13)
  else if okAll (keysL m).2.1 l (keysL m).1 then (l.flatten, 0) else ([], 13)

/-! ### lists of strings -/
def StC (cs : List Value) (s : List UInt8) : Prop := cs = [.string (bs s)] ∧ s.length ≤ 9223372036854775807
abbrev Strs (w : World) (A : Option Addr) (n c : Nat) (xs : List (List UInt8)) : Prop := Sl w 1 StC A n c xs
theorem Strs.at_ {w : World} {A : Option Addr} {n c k : Nat} {xs : List (List UInt8)} (h : Strs w A n c xs) (hk : k < xs.length) :
    ∃ b off, A = some ⟨b, off, none⟩ ∧ b < w.heap.size ∧ w.cell? ⟨b, off + k, none⟩ = some (.string (bs xs[k])) ∧ xs[k].length ≤ 9223372036854775807 := by
  obtain ⟨b, off, cs, e, hlt, hl, ⟨rfl, hm⟩, hc⟩ := h.4 k hk
  refine ⟨b, off, e, hlt, ?_, hm⟩
  have := hc 0 _ rfl
  simpa using this
/-- a list of strings of one's own -/
abbrev OwnT (w : World) (B : Nat) (v : Value) (xs : List (List UInt8)) : Prop := OwnC w B 1 v xs.length (strs xs)
def ShortT (xs : List (List UInt8)) : Prop := ∀ x ∈ xs, x.length ≤ 9223372036854775807
theorem OwnT.strs {w : World} {B : Nat} {v : Value} {xs : List (List UInt8)} (h : OwnT w B v xs) (hs : ShortT xs) : ∃ A c, v = .slice A xs.length c ∧ Strs w A xs.length c xs := by
  rcases h.2 with ⟨rfl, h0⟩ | ⟨g, cap, rfl, hb, hlt, hnc, hcm, _, _, hx⟩
  · obtain rfl : xs = [] := List.eq_nil_of_length_eq_zero h0
    exact ⟨none, 0, rfl, Sl.nil_⟩
  · refine ⟨_, cap, rfl, rfl, hnc, by unfold maxLen at hcm; omega, fun i hi => ⟨g, 0, [.string (bs xs[i])], rfl, hlt, rfl, ⟨rfl, hs _ (List.getElem_mem hi)⟩, fun j u hu => ?_⟩⟩
    match j, hu with
    | 0, hu =>
      cases hu
      have := hx i (.string (bs xs[i])) (by simp [Ytnfbakldpjmbnaa.strs, hi])
      simpa using this
theorem OwnT.snoc {w : World} {B : Nat} {v : Value} {xs : List (List UInt8)} {x : List UInt8} (h : OwnC w B 1 v (xs.length + 1) (Ytnfbakldpjmbnaa.strs xs ++ [.string (bs x)])) : OwnT w B v (xs ++ [x]) := by
  unfold OwnT
  rw [strs_append, List.length_append]
  exact h
theorem OwnC.isSlice {w : World} {B size n : Nat} {v : Value} {xs : List Value} (h : OwnC w B size v n xs) : ∃ A c, v = .slice A n c := by
  rcases h.2 with ⟨rfl, rfl⟩ | ⟨g, cap, rfl, _⟩
  · exact ⟨_, _, rfl⟩
  · exact ⟨_, _, rfl⟩
theorem short_piece (d : List UInt8) : ShortT (cutL d) := fun x hx => by
  obtain ⟨k, _, rfl⟩ := List.mem_map.1 hx
  have := piece_len d k
  omega
theorem short_32 (r : List UInt8) (k : Nat) : ShortT (cut32 r k) := fun x hx => by
  obtain ⟨i, _, rfl⟩ := List.mem_map.1 hx
  unfold key32
  rw [List.length_take]; omega
theorem cut32_len (r : List UInt8) (k : Nat) : (cut32 r k).length = k := by simp [cut32]
theorem cut32_succ (r : List UInt8) (k : Nat) : cut32 r (k + 1) = cut32 r k ++ [key32 r k] := by simp [cut32, List.range_succ]
theorem key32_extract (r : List UInt8) (k : Nat) : (bs r).extract (32 * k) (32 * k + 32) = bs (key32 r k) := by
  rw [bs_extract]; unfold key32; congr 2; omega
theorem drop_extract (r : List UInt8) (a : Nat) : (bs r).extract a r.length = bs (r.drop a) := by
  rw [bs_extract]
  congr 1
  rw [List.take_of_length_le (by rw [List.length_drop]; omega)]
theorem Blk.new2 (w : World) (o : Obj) (t : TypeId) (cs : Array Value) : Blk ((w.alloc o).alloc (.cells cs t)) (w.heap.size + 1) t cs := by
  have := Blk.new (w.alloc o) t cs
  rwa [show (w.alloc o).heap.size = w.heap.size + 1 from Array.size_push _] at this
end Go.Proofs.Ytnfbakldpjmbnaa
