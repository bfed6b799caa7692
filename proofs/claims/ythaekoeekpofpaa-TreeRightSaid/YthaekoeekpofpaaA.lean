/- A tree's nodes and operations as plain values; a list of nodes in memory; who is found. -/
import Derived.Test.YthaekoeekpofpaaRows
import Derived.Test.YthaekoeekpofpaaWords
import Derived.Test.YthaekoeekpofpaaBs
import Derived.Test.YthaekoeekpofpaaMaps
import Derived.Laws.LoneSync
import Derived.Deep.RegionHeld3
import Derived.Deep.RegionLaw
import Derived.Deep.Upon
namespace Go.Proofs.Ythaekoeekpofpaa
open Go.RowKit
attribute [local go_sem] bs_size bs_getElem bs_list bs_append

theorem cell?_alloc_old {w : World} {g i : Nat} {u : Value} (h : w.cell? ⟨g, i, none⟩ = some u) (o : Obj) : (w.alloc o).cell? ⟨g, i, none⟩ = some u := by
  rw [World.cell?_alloc_past _ _ _ (cell_lt h)]; exact h

abbrev St := Int × Int
structure Nd where
  id : St
  dir : Bool
  par : St
  nm : List UInt8
  mf : List UInt8
deriving DecidableEq
instance : Inhabited Nd := ⟨⟨(0, 0), false, (0, 0), [], []⟩⟩
def nd0 : Nd := ⟨(0, 0), false, (0, 0), [], []⟩
def nc (x : Nd) : List Value := [.int .i64 x.id.1, .int .i64 x.id.2, .bool x.dir, .int .i64 x.par.1, .int .i64 x.par.2, .string (bs x.nm), .string (bs x.mf)]
def nv (x : Nd) : Value := .agg #[.int .i64 x.id.1, .int .i64 x.id.2, .bool x.dir, .int .i64 x.par.1, .int .i64 x.par.2, .string (bs x.nm), .string (bs x.mf)]
def sv (s : St) : Value := .agg #[.int .i64 s.1, .int .i64 s.2]
def NdC (cs : List Value) (x : Nd) : Prop := cs = nc x ∧ x.nm.length ≤ 9223372036854775807 ∧ x.mf.length ≤ 9223372036854775807
/-- a list of nodes -/
abbrev Nds (w : World) (A : Option Addr) (n c : Nat) (xs : List Nd) : Prop := Sl w 7 NdC A n c xs
theorem Nds.at_ {w : World} {A : Option Addr} {n c k : Nat} {xs : List Nd} (h : Nds w A n c xs) (hk : k < xs.length) :
    ∃ b off, A = some ⟨b, off, none⟩ ∧ b < w.heap.size ∧ w.cell? ⟨b, off + k * 7, none⟩ = some (.int .i64 xs[k].id.1) ∧ w.cell? ⟨b, off + k * 7 + 1, none⟩ = some (.int .i64 xs[k].id.2) ∧ w.cell? ⟨b, off + k * 7 + 2, none⟩ = some (.bool xs[k].dir) ∧
      w.cell? ⟨b, off + k * 7 + 3, none⟩ = some (.int .i64 xs[k].par.1) ∧ w.cell? ⟨b, off + k * 7 + 4, none⟩ = some (.int .i64 xs[k].par.2) ∧ w.cell? ⟨b, off + k * 7 + 5, none⟩ = some (.string (bs xs[k].nm)) ∧ w.cell? ⟨b, off + k * 7 + 6, none⟩ = some (.string (bs xs[k].mf)) ∧
      xs[k].nm.length ≤ 9223372036854775807 ∧ xs[k].mf.length ≤ 9223372036854775807 := by
  obtain ⟨b, off, cs, e, hlt, hl, ⟨rfl, hr1, hr2⟩, hc⟩ := h.4 k hk
  exact ⟨b, off, e, hlt, by have := hc 0 _ rfl; simpa using this, hc 1 _ rfl, hc 2 _ rfl, hc 3 _ rfl, hc 4 _ rfl, hc 5 _ rfl, hc 6 _ rfl, hr1, hr2⟩

def isId (s : St) (x : Nd) : Bool := decide (x.id = s)
/-- the first place where p holds, -1 where there is none -/
def firstI (p : Nd → Bool) (xs : List Nd) : Int := match xs.findIdx? p with
  | some i => i
  | none => -1
theorem firstI_at {p : Nd → Bool} {xs : List Nd} {k : Nat} (hk : k < xs.length) (h : p xs[k] = true) (hall : ∀ j (hj : j < xs.length), j < k → p xs[j] = false) : firstI p xs = k := by
  have h1 : xs.findIdx? p = some k := by
    rw [List.findIdx?_eq_some_iff_getElem]
    exact ⟨hk, h, fun j hj => by rw [hall j (by omega) hj]; simp⟩
  unfold firstI; rw [h1]
theorem firstI_none {p : Nd → Bool} {xs : List Nd} (hall : ∀ j (hj : j < xs.length), p xs[j] = false) : firstI p xs = -1 := by
  have h1 : xs.findIdx? p = none := by
    rw [List.findIdx?_eq_none_iff]
    intro x hx
    obtain ⟨j, hj, rfl⟩ := List.mem_iff_getElem.1 hx
    exact hall j hj
  unfold firstI; rw [h1]
theorem firstI_cases (p : Nd → Bool) (xs : List Nd) : (∃ k : Nat, ∃ hk : k < xs.length, firstI p xs = k ∧ p xs[k] = true) ∨ (firstI p xs = -1 ∧ ∀ x ∈ xs, p x = false) := by
  unfold firstI
  cases h : xs.findIdx? p with
  | none => exact .inr ⟨rfl, List.findIdx?_eq_none_iff.1 h⟩
  | some k =>
    obtain ⟨hk, h1, _⟩ := List.findIdx?_eq_some_iff_getElem.1 h
    exact .inl ⟨k, hk, rfl, h1⟩
/-- the node of a stamp -/
def findN (s : St) (xs : List Nd) : Nd := (xs.find? (isId s)).getD nd0
def hasN (s : St) (xs : List Nd) : Bool := (xs.find? (isId s)).isSome
theorem find_at {s : St} {xs : List Nd} {k : Nat} (hk : k < xs.length) (h : firstI (isId s) xs = k) : findN s xs = xs[k] ∧ hasN s xs = true := by
  have h1 : xs.findIdx? (isId s) = some k := by
    unfold firstI at h
    cases hf : xs.findIdx? (isId s) with
    | none => rw [hf] at h; have h : (-1 : Int) = k := h; omega
    | some i => rw [hf] at h; have h : (i : Int) = k := h; congr 1; omega
  obtain ⟨_, h2, h3⟩ := List.findIdx?_eq_some_iff_getElem.1 h1
  have h4 : xs.find? (isId s) = some xs[k] := by
    rw [List.find?_eq_some_iff_getElem]
    exact ⟨h2, k, hk, rfl, fun j hj => by have := h3 j hj; simpa using this⟩
  exact ⟨by rw [findN, h4]; rfl, by rw [hasN, h4]; rfl⟩
theorem find_no {s : St} {xs : List Nd} (h : firstI (isId s) xs = -1) : findN s xs = nd0 ∧ hasN s xs = false := by
  rcases firstI_cases (isId s) xs with ⟨k, _, h1, _⟩ | ⟨_, h1⟩
  · rw [h] at h1; omega
  · have h4 : xs.find? (isId s) = none := List.find?_eq_none.2 fun x hx => by rw [h1 x hx]; simp
    exact ⟨by rw [findN, h4]; rfl, by rw [hasN, h4]; rfl⟩

/-! ### the closure of place, IndexFunc, place -/
theorem run_eql_st (a b : St) (w : World) : (binOp .eql 30 (.agg #[.int .i64 a.1, .int .i64 a.2]) (.agg #[.int .i64 b.1, .int .i64 b.2])).run Try.prog w = .ok (.bool (decide (a = b))) w := by
  obtain ⟨a1, a2⟩ := a
  obtain ⟨b1, b2⟩ := b
  by_cases h1 : a1 = b1 <;> by_cases h2 : a2 = b2 <;> simp [go_sem, h1, h2]

set_option maxRecDepth 100000 in
set_option maxHeartbeats 1600000 in
theorem clo_id (q : Nat) (s : St) (x : Nd) (w : World) (hq : w.cell? ⟨q, 0, none⟩ = some (.int .i64 s.1)) (hq1 : w.cell? ⟨q, 1, none⟩ = some (.int .i64 s.2)) :
    Calls Try.prog 43 #[nv x, .pointer (some ⟨q, 0, none⟩)] w fun e w' => e = .returned (.bool (isId s x)) ∧ Below w.heap.size w w' := by
  have hl := cell_lt hq
  obtain ⟨w1, hw1⟩ : ∃ w1, w1 = w.alloc (.cells (nc x).toArray 37) := ⟨_, rfl⟩
  have hB := Blk.new w 37 (nc x).toArray
  have hb : Below w.heap.size w (w.alloc (.cells (nc x).toArray 37)) := (Below.refl _ w).alloc (Nat.le_refl _) _
  have hc := cell?_alloc_old hq (.cells (nc x).toArray 37)
  have hc1 := cell?_alloc_old hq1 (.cells (nc x).toArray 37)
  rw [← hw1] at hB hb hc hc1
  have e0 := hB.cell 0
  have e1 := hB.cell 1
  unfold nc at hw1 e0 e1
  simp only [List.getElem?_toArray, List.getElem?_cons_zero, List.getElem?_cons_succ] at e0 e1
  have he := run_eql_st x.id s
  have HW := Lib.hid hw1
  have HB := Lib.hid hb
  clear hw1 hb hB
  unfold nv
  go_enter Try.func43, Try.ntmps43
  go_wp2_with fail
  rw [← HW.out]
  go_wp2_with fail
  go_ret
  exact ⟨rfl, HB.out⟩
end Go.Proofs.Ythaekoeekpofpaa
