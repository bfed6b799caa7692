/- Several texts in one: A B C D E F G H I J K L M N O. -/
import Derived.Test.YtaglomhmnoldlaaRows
import Derived.Test.YtaglomhmnoldlaaWords
import Derived.Test.YtaglomhmnoldlaaBs
import Derived.Test.YtaglomhmnoldlaaMaps
import Derived.Laws.LoneSync
import Derived.Deep.RegionHeld3
import Derived.Deep.RegionLaw
import Derived.Deep.Upon
import Derived.BigQuiet
import Derived.Test.YtaglomhmnoldlaaOwnC
import Derived.Lib.SliceRun
/-! A tree's nodes and operations as plain values; a list of nodes in memory; who is found. -/
namespace Go.Proofs.Ytaglomhmnoldlaa
open Go.RowKit
attribute [local go_sem] bs_size bs_getElem bs_list bs_append

theorem cell?_alloc_old {w : World} {g i : Nat} {u : Value} (h : w.cell? ⟨g, i, none⟩ = some u) (o : Obj) : (w.alloc o).cell? ⟨g, i, none⟩ = some u := by
  rw [World.cell?_alloc_past _ _ _ (cell_lt h)]; exact h

abbrev St := Int × Int
structure Nd where
  id : St
  dir : Bool
  par : St
  nm : List UInt8
  mf : List UInt8
deriving DecidableEq
instance : Inhabited Nd := ⟨⟨(0, 0), false, (0, 0), [], []⟩⟩
def nd0 : Nd := ⟨(0, 0), false, (0, 0), [], []⟩
def nc (x : Nd) : List Value := [.int .i64 x.id.1, .int .i64 x.id.2, .bool x.dir, .int .i64 x.par.1, .int .i64 x.par.2, .string (bs x.nm), .string (bs x.mf)]
def nv (x : Nd) : Value := .agg #[.int .i64 x.id.1, .int .i64 x.id.2, .bool x.dir, .int .i64 x.par.1, .int .i64 x.par.2, .string (bs x.nm), .string (bs x.mf)]
def sv (s : St) : Value := .agg #[.int .i64 s.1, .int .i64 s.2]
def NdC (cs : List Value) (x : Nd) : Prop := cs = nc x ∧ x.nm.length ≤ 9223372036854775807 ∧ x.mf.length ≤ 9223372036854775807
/-- a list of nodes -/
abbrev Nds (w : World) (A : Option Addr) (n c : Nat) (xs : List Nd) : Prop := Sl w 7 NdC A n c xs
theorem Nds.at_ {w : World} {A : Option Addr} {n c k : Nat} {xs : List Nd} (h : Nds w A n c xs) (hk : k < xs.length) :
    ∃ b off, A = some ⟨b, off, none⟩ ∧ b < w.heap.size ∧ w.cell? ⟨b, off + k * 7, none⟩ = some (.int .i64 xs[k].id.1) ∧ w.cell? ⟨b, off + k * 7 + 1, none⟩ = some (.int .i64 xs[k].id.2) ∧ w.cell? ⟨b, off + k * 7 + 2, none⟩ = some (.bool xs[k].dir) ∧
      w.cell? ⟨b, off + k * 7 + 3, none⟩ = some (.int .i64 xs[k].par.1) ∧ w.cell? ⟨b, off + k * 7 + 4, none⟩ = some (.int .i64 xs[k].par.2) ∧ w.cell? ⟨b, off + k * 7 + 5, none⟩ = some (.string (bs xs[k].nm)) ∧ w.cell? ⟨b, off + k * 7 + 6, none⟩ = some (.string (bs xs[k].mf)) ∧
      xs[k].nm.length ≤ 9223372036854775807 ∧ xs[k].mf.length ≤ 9223372036854775807 := by
  obtain ⟨b, off, cs, e, hlt, hl, ⟨rfl, hr1, hr2⟩, hc⟩ := h.4 k hk
  exact ⟨b, off, e, hlt, by have := hc 0 _ rfl; simpa using this, hc 1 _ rfl, hc 2 _ rfl, hc 3 _ rfl, hc 4 _ rfl, hc 5 _ rfl, hc 6 _ rfl, hr1, hr2⟩

def isId (s : St) (x : Nd) : Bool := decide (x.id = s)
/-- the first place where p holds, -1 where there is none -/
def firstI (p : Nd → Bool) (xs : List Nd) : Int := match xs.findIdx? p with
  | some i => i
  | none => -1
theorem firstI_at {p : Nd → Bool} {xs : List Nd} {k : Nat} (hk : k < xs.length) (h : p xs[k] = true) (hall : ∀ j (hj : j < xs.length), j < k → p xs[j] = false) : firstI p xs = k := by
  have h1 : xs.findIdx? p = some k := by
    rw [List.findIdx?_eq_some_iff_getElem]
    exact ⟨hk, h, fun j hj => by rw [hall j (by omega) hj]; simp⟩
  unfold firstI; rw [h1]
theorem firstI_none {p : Nd → Bool} {xs : List Nd} (hall : ∀ j (hj : j < xs.length), p xs[j] = false) : firstI p xs = -1 := by
  have h1 : xs.findIdx? p = none := by
    rw [List.findIdx?_eq_none_iff]
    intro x hx
    obtain ⟨j, hj, rfl⟩ := List.mem_iff_getElem.1 hx
    exact hall j hj
  unfold firstI; rw [h1]
theorem firstI_cases (p : Nd → Bool) (xs : List Nd) : (∃ k : Nat, ∃ hk : k < xs.length, firstI p xs = k ∧ p xs[k] = true) ∨ (firstI p xs = -1 ∧ ∀ x ∈ xs, p x = false) := by
  unfold firstI
  cases h : xs.findIdx? p with
  | none => exact .inr ⟨rfl, List.findIdx?_eq_none_iff.1 h⟩
  | some k =>
    obtain ⟨hk, h1, _⟩ := List.findIdx?_eq_some_iff_getElem.1 h
    exact .inl ⟨k, hk, rfl, h1⟩
/-- the node of a stamp -/
def findN (s : St) (xs : List Nd) : Nd := (xs.find? (isId s)).getD nd0
def hasN (s : St) (xs : List Nd) : Bool := (xs.find? (isId s)).isSome
theorem find_at {s : St} {xs : List Nd} {k : Nat} (hk : k < xs.length) (h : firstI (isId s) xs = k) : findN s xs = xs[k] ∧ hasN s xs = true := by
  have h1 : xs.findIdx? (isId s) = some k := by
    unfold firstI at h
    cases hf : xs.findIdx? (isId s) with
    | none => rw [hf] at h; have h : (-1 : Int) = k := h; omega
    | some i => rw [hf] at h; have h : (i : Int) = k := h; congr 1; omega
  obtain ⟨_, h2, h3⟩ := List.findIdx?_eq_some_iff_getElem.1 h1
  have h4 : xs.find? (isId s) = some xs[k] := by
    rw [List.find?_eq_some_iff_getElem]
    exact ⟨h2, k, hk, rfl, fun j hj => by have := h3 j hj; simpa using this⟩
  exact ⟨by rw [findN, h4]; rfl, by rw [hasN, h4]; rfl⟩
theorem find_no {s : St} {xs : List Nd} (h : firstI (isId s) xs = -1) : findN s xs = nd0 ∧ hasN s xs = false := by
  rcases firstI_cases (isId s) xs with ⟨k, _, h1, _⟩ | ⟨_, h1⟩
  · rw [h] at h1; omega
  · have h4 : xs.find? (isId s) = none := List.find?_eq_none.2 fun x hx => by rw [h1 x hx]; simp
    exact ⟨by rw [findN, h4]; rfl, by rw [hasN, h4]; rfl⟩

/-! ### the closure of place, IndexFunc, place -/
theorem run_eql_st (a b : St) (w : World) : (binOp .eql 27 (.agg #[.int .i64 a.1, .int .i64 a.2]) (.agg #[.int .i64 b.1, .int .i64 b.2])).run Try.prog w = .ok (.bool (decide (a = b))) w := by
  obtain ⟨a1, a2⟩ := a
  obtain ⟨b1, b2⟩ := b
  by_cases h1 : a1 = b1 <;> by_cases h2 : a2 = b2 <;> simp [go_sem, h1, h2]

set_option maxRecDepth 100000 in
set_option maxHeartbeats 1600000 in
theorem clo_id (q : Nat) (s : St) (x : Nd) (w : World) (hq : w.cell? ⟨q, 0, none⟩ = some (.int .i64 s.1)) (hq1 : w.cell? ⟨q, 1, none⟩ = some (.int .i64 s.2)) :
    Calls Try.prog 63 #[nv x, .pointer (some ⟨q, 0, none⟩)] w fun e w' => e = .returned (.bool (isId s x)) ∧ Below w.heap.size w w' := by
  have hl := cell_lt hq
  obtain ⟨w1, hw1⟩ : ∃ w1, w1 = w.alloc (.cells (nc x).toArray 38) := ⟨_, rfl⟩
  have hB := Blk.new w 38 (nc x).toArray
  have hb : Below w.heap.size w (w.alloc (.cells (nc x).toArray 38)) := (Below.refl _ w).alloc (Nat.le_refl _) _
  have hc := cell?_alloc_old hq (.cells (nc x).toArray 38)
  have hc1 := cell?_alloc_old hq1 (.cells (nc x).toArray 38)
  rw [← hw1] at hB hb hc hc1
  have e0 := hB.cell 0
  have e1 := hB.cell 1
  unfold nc at hw1 e0 e1
  simp only [List.getElem?_toArray, List.getElem?_cons_zero, List.getElem?_cons_succ] at e0 e1
  have he := run_eql_st x.id s
  have HW := Lib.hid hw1
  have HB := Lib.hid hb
  clear hw1 hb hB
  unfold nv
  go_enter Try.func63, Try.ntmps63
  go_wp2_with fail
  rw [← HW.out]
  go_wp2_with fail
  go_ret
  exact ⟨rfl, HB.out⟩
end Go.Proofs.Ytaglomhmnoldlaa
/-! place, at, Find of both. -/
namespace Go.Proofs.Ytaglomhmnoldlaa
open Go.RowKit
attribute [local go_sem] bs_size bs_getElem bs_list bs_append

theorem below_drewN {B : Nat} {w0 w : World} (h : Below B w0 w) (n : Nat) : Below B w0 (w.drewN n) := ⟨h.os, h.tape, h.output, h.size, h.block⟩

set_option maxRecDepth 100000 in
set_option maxHeartbeats 1600000 in
theorem index_id (q : Nat) (s : St) (A : Option Addr) (n c : Nat) (xs : List Nd) (w : World) (hx : Nds w A n c xs) (hq : w.cell? ⟨q, 0, none⟩ = some (.int .i64 s.1)) (hq1 : w.cell? ⟨q, 1, none⟩ = some (.int .i64 s.2)) :
    Calls Try.prog 62 #[.slice A n c, .func (.func 63) #[] #[.pointer (some ⟨q, 0, none⟩)]] w fun e w' => e = .returned (.int .i64 (firstI (isId s) xs)) ∧ Below w.heap.size w w' := by
  have hql := cell_lt hq
  have hn := hx.len
  have hmx := hx.max
  have hle := hx.le
  have HX := Lib.hid hx
  have HQ := Lib.hid hq
  have HQ1 := Lib.hid hq1
  clear hx hq hq1
  go_enter Try.func62, Try.ntmps62
  go_wp2_with fail
  go_loopw [8] (fun i wr => ∃ k : Nat, k ≤ xs.length ∧ i = .int .i64 k ∧ Below w.heap.size w wr ∧ ∀ j (hj : j < xs.length), j < k → isId s xs[j] = false) (fun i _ => xs.length - (intOf i).toNat)
  case atStart => exact ⟨0, by omega, rfl, Below.refl _ _, fun j _ h => by omega⟩
  case round =>
    obtain ⟨k, hk, rfl, hb, hall⟩ := hrel
    rcases Nat.lt_or_ge k xs.length with hlt | hge
    · obtain ⟨b, off, rfl, hbl, c0, c1, c2, c3, c4, c5, c6, _⟩ := Nds.at_ (HX.out.below hb) hlt
      have hq' := cell_below hb hql HQ.out
      have hq1' := cell_below hb hql HQ1.out
      have HA := Lib.hid hall
      have hcl := clo_id q s xs[k] wr hq' hq1'
      obtain ⟨x, hx⟩ : ∃ x, xs[k] = x := ⟨_, rfl⟩
      rw [hx] at c0 c1 c2 c3 c4 c5 c6 hcl
      unfold nv at hcl
      have HCl := Lib.hid hcl
      have HX2 := Lib.hid hx
      have HB := Lib.hid hb
      have hki : (k : Int) < (n : Int) := by omega
      clear hall hx hb hq' hq1' hcl
      go_wp2_with fail
      refine HCl.out.mono ?_
      rintro e w2 ⟨rfl, hb2⟩
      have hb3 := HB.out.trans (hb2.mono HB.out.size)
      cases hc : isId s x with
      | true =>
        go_wp2_with fail
        have hfin : firstI (isId s) xs = k := firstI_at hlt (by rw [HX2.out]; exact hc) HA.out
        go_ret
        exact ⟨by rw [hfin]; rfl, hb3⟩
      | false =>
        go_wp2_with fail
        exact ⟨⟨k + 1, by omega, by go_num, hb3, fun j hj hjk => by
          by_cases e : j = k
          · subst e; rw [HX2.out]; exact hc
          · exact HA.out j hj (by omega)⟩, by simp [intOf]; omega⟩
    · have hkn : ¬ (k : Int) < (n : Int) := by omega
      have hfin : firstI (isId s) xs = -1 := firstI_none fun j hj => hall j hj (by omega)
      clear hall
      go_wp2_with fail
      go_ret
      exact ⟨rfl, hb⟩

set_option maxRecDepth 100000 in
set_option maxHeartbeats 1600000 in
theorem place_any (s : St) (A : Option Addr) (n c : Nat) (xs : List Nd) (w : World) (hx : Nds w A n c xs) :
    Calls Try.prog 45 #[.slice A n c, sv s] w fun e w' => e = .returned (.int .i64 (firstI (isId s) xs)) ∧ Below w.heap.size w w' := by
  have hb1 : Below w.heap.size w (w.alloc (.cells #[.int .i64 s.1, .int .i64 s.2] 27)) := (Below.refl _ w).alloc (Nat.le_refl _) _
  have hB := Blk.new w 27 #[.int .i64 s.1, .int .i64 s.2]
  have h1 := index_id w.heap.size s A n c xs _ (hx.below hb1) (hB.cell 0) (hB.cell 1)
  have H1 := Lib.hid h1
  have HB := Lib.hid hb1
  clear h1 hb1 hB hx
  unfold sv
  go_enter Try.func45, Try.ntmps45
  go_wp2_with fail
  refine H1.out.mono ?_
  rintro e w2 ⟨rfl, hb2⟩
  have hb3 := HB.out.trans (hb2.mono HB.out.size)
  go_wp2_with fail
  go_ret
  exact ⟨rfl, hb3⟩

set_option maxRecDepth 100000 in
set_option maxHeartbeats 1600000 in
theorem at_any (s : St) (A : Option Addr) (n c : Nat) (xs : List Nd) (w : World) (hx : Nds w A n c xs) :
    Calls Try.prog 57 #[.slice A n c, sv s] w fun e w' => e = .returned (.int .i64 (firstI (isId s) xs)) ∧ Below w.heap.size w w' := by
  have hb1 : Below w.heap.size w (w.alloc (.cells #[.int .i64 s.1, .int .i64 s.2] 27)) := (Below.refl _ w).alloc (Nat.le_refl _) _
  have hB := Blk.new w 27 #[.int .i64 s.1, .int .i64 s.2]
  have hx1 := hx.below hb1
  have q0 := hB.cell 0
  have q1 := hB.cell 1
  simp only [List.getElem?_toArray, List.getElem?_cons_zero, List.getElem?_cons_succ] at q0 q1
  have hn := hx.len
  have hmx := hx.max
  have hle := hx.le
  obtain ⟨w1, hw1⟩ : ∃ w1, w1 = w.alloc (.cells #[.int .i64 s.1, .int .i64 s.2] 27) := ⟨_, rfl⟩
  rw [← hw1] at hB hb1 hx1 q0 q1
  have HW := Lib.hid hw1
  have HX := Lib.hid hx1
  have HB := Lib.hid hb1
  have hs := hb1.size
  obtain ⟨B, hBe⟩ : ∃ B, B = w.heap.size := ⟨_, rfl⟩
  have hB1 := cell_lt q0
  rw [← hBe] at q0 q1 hB1
  have HBe := Lib.hid hBe
  have HQ0 := Lib.hid q0
  have HQ1 := Lib.hid q1
  clear hw1 hx1 hb1 hB hx hBe q0 q1 hs
  unfold sv
  go_enter Try.func57, Try.ntmps57
  go_wp2_with fail
  rw [← HW.out, ← HBe.out]
  go_loopw [5] (fun i wr => ∃ k : Nat, k ≤ xs.length ∧ i = .int .i64 k ∧ Below w1.heap.size w1 wr ∧ ∀ j (hj : j < xs.length), j < k → isId s xs[j] = false) (fun i _ => xs.length - (intOf i).toNat)
  case atStart => exact ⟨0, by omega, rfl, Below.refl _ _, fun j _ h => by omega⟩
  case round =>
    obtain ⟨k, hk, rfl, hb, hall⟩ := hrel
    have hbw := HB.out.trans (hb.mono HB.out.size)
    rcases Nat.lt_or_ge k xs.length with hlt | hge
    · obtain ⟨b, off, rfl, hbl, c0, c1, c2, c3, c4, c5, c6, _⟩ := Nds.at_ (HX.out.below hb) hlt
      have q0 := cell_below hb hB1 HQ0.out
      have q1 := cell_below hb hB1 HQ1.out
      have HA := Lib.hid hall
      obtain ⟨x, hx⟩ : ∃ x, xs[k] = x := ⟨_, rfl⟩
      rw [hx] at c0 c1 c2 c3 c4 c5 c6
      have he := run_eql_st x.id s
      have HX2 := Lib.hid hx
      have HB4 := Lib.hid hb
      have hki : (k : Int) < (n : Int) := by omega
      have hie : isId s x = decide (x.id = s) := rfl
      clear hall hx hb
      cases hc : isId s x with
      | true =>
        rw [hie] at hc
        go_wp2_with fail
        go_quiet (fail)
        have hb5 := Lib.hid (below_drewN hbw nq)
        go_wp2_with fail
        have hfin : firstI (isId s) xs = k := firstI_at hlt (by rw [HX2.out]; exact hc) HA.out
        go_ret
        exact ⟨by rw [hfin]; rfl, hb5.out⟩
      | false =>
        rw [hie] at hc
        go_wp2_with fail
        go_quiet (fail)
        have hb5 := Lib.hid (below_drewN HB4.out nq)
        go_wp2_with fail
        exact ⟨⟨k + 1, by omega, by go_num, hb5.out, fun j hj hjk => by
          by_cases e : j = k
          · subst e; rw [HX2.out]; exact hc
          · exact HA.out j hj (by omega)⟩, by simp [intOf]; omega⟩
    · have hkn : ¬ (k : Int) < (n : Int) := by omega
      have hfin : firstI (isId s) xs = -1 := firstI_none fun j hj => hall j hj (by omega)
      clear hall
      go_wp2_with fail
      go_ret
      exact ⟨rfl, hbw⟩
end Go.Proofs.Ytaglomhmnoldlaa
/-! Find of both; some; trash. -/
namespace Go.Proofs.Ytaglomhmnoldlaa
open Go.RowKit
attribute [local go_sem] bs_size bs_getElem bs_list bs_append

/-- seven cells written one by one -/
def put7 (w : World) (B : Nat) (x : Nd) : World := ((((((w.setCell ⟨B, 0, none⟩ (.int .i64 x.id.1)).setCell ⟨B, 1, none⟩ (.int .i64 x.id.2)).setCell ⟨B, 2, none⟩ (.bool x.dir)).setCell ⟨B, 3, none⟩ (.int .i64 x.par.1)).setCell ⟨B, 4, none⟩ (.int .i64 x.par.2)).setCell ⟨B, 5, none⟩ (.string (bs x.nm))).setCell ⟨B, 6, none⟩ (.string (bs x.mf))
theorem blk_put7 {w : World} {B : Nat} {y : Nd} (x : Nd) (h : Blk w B 38 (nc y).toArray) : Blk (put7 w B x) B 38 (nc x).toArray := by
  have := Blk.set_ (Blk.set_ (Blk.set_ (Blk.set_ (Blk.set_ (Blk.set_ (Blk.set_ h 0 (.int .i64 x.id.1)) 1 (.int .i64 x.id.2)) 2 (.bool x.dir)) 3 (.int .i64 x.par.1)) 4 (.int .i64 x.par.2)) 5 (.string (bs x.nm))) 6 (.string (bs x.mf))
  unfold put7
  simpa [nc] using this
theorem below_put7 {B0 : Nat} {w0 w : World} (h : Below B0 w0 w) {B : Nat} (hB : B0 ≤ B) (x : Nd) : Below B0 w0 (put7 w B x) :=
  ((((((h.setCell (p := ⟨B, 0, none⟩) hB _).setCell (p := ⟨B, 1, none⟩) hB _).setCell (p := ⟨B, 2, none⟩) hB _).setCell (p := ⟨B, 3, none⟩) hB _).setCell (p := ⟨B, 4, none⟩) hB _).setCell (p := ⟨B, 5, none⟩) hB _).setCell (p := ⟨B, 6, none⟩) hB _
theorem blk7 {w : World} {B : Nat} {x : Nd} (h : Blk w B 38 (nc x).toArray) : w.cell? ⟨B, 0, none⟩ = some (.int .i64 x.id.1) ∧ w.cell? ⟨B, 1, none⟩ = some (.int .i64 x.id.2) ∧ w.cell? ⟨B, 2, none⟩ = some (.bool x.dir) ∧ w.cell? ⟨B, 3, none⟩ = some (.int .i64 x.par.1) ∧ w.cell? ⟨B, 4, none⟩ = some (.int .i64 x.par.2) ∧ w.cell? ⟨B, 5, none⟩ = some (.string (bs x.nm)) ∧ w.cell? ⟨B, 6, none⟩ = some (.string (bs x.mf)) :=
  ⟨h.cell 0, h.cell 1, h.cell 2, h.cell 3, h.cell 4, h.cell 5, h.cell 6⟩

set_option maxRecDepth 100000 in
set_option maxHeartbeats 1600000 in
theorem find_any (s : St) (A : Option Addr) (n c : Nat) (xs : List Nd) (w : World) (hx : Nds w A n c xs) :
    Calls Try.prog 64 #[.slice A n c, sv s] w fun e w' => e = .returned (.tuple #[nv (findN s xs), .bool (hasN s xs)]) ∧ Below w.heap.size w w' := by
  have hn := hx.len
  have hmx := hx.max
  have hle := hx.le
  have hb1 : Below w.heap.size w (w.alloc (.cells #[.int .i64 s.1, .int .i64 s.2] 27)) := (Below.refl _ w).alloc (Nat.le_refl _) _
  have hB := Blk.new w 27 #[.int .i64 s.1, .int .i64 s.2]
  have q0 := hB.cell 0
  have q1 := hB.cell 1
  simp only [List.getElem?_toArray, List.getElem?_cons_zero, List.getElem?_cons_succ] at q0 q1
  have q0 := cell?_alloc_old q0 (.cells (nc nd0).toArray 38)
  have q1 := cell?_alloc_old q1 (.cells (nc nd0).toArray 38)
  have hb2 := hb1.alloc hb1.size (.cells (nc nd0).toArray 38)
  have hB2 := Blk.new (w.alloc (.cells #[.int .i64 s.1, .int .i64 s.2] 27)) 38 (nc nd0).toArray
  have hsz : (w.alloc (.cells #[.int .i64 s.1, .int .i64 s.2] 27)).heap.size = w.heap.size + 1 := Array.size_push _
  rw [hsz] at hB2
  have hx1 := hx.below hb2
  obtain ⟨w1, hw1⟩ : ∃ w1, w1 = (w.alloc (.cells #[.int .i64 s.1, .int .i64 s.2] 27)).alloc (.cells (nc nd0).toArray 38) := ⟨_, rfl⟩
  rw [← hw1] at hB2 hb2 hx1 q0 q1
  have HW := Lib.hid (show w1 = (w.alloc (.cells #[.int .i64 s.1, .int .i64 s.2] 27)).alloc (.cells #[.int .i64 0, .int .i64 0, .bool false, .int .i64 0, .int .i64 0, .string ⟨#[]⟩, .string ⟨#[]⟩] 38) from hw1)
  have HX := Lib.hid hx1
  have HB := Lib.hid hb2
  have HB2 := Lib.hid hB2
  have HP := Lib.hid (place_any s A n c xs w1 hx1)
  clear hw1 hx1 hb1 hB hx hb2 hB2 hsz
  unfold sv at *
  rcases firstI_cases (isId s) xs with ⟨k, hk, hfk, hp⟩ | ⟨hfk, hall⟩
  · obtain ⟨e1, e2⟩ := find_at hk hfk
    rw [e1, e2]
    rw [hfk] at HP
    obtain ⟨x, hxk⟩ : ∃ x, x = xs[k] := ⟨_, rfl⟩
    rw [← hxk]
    have HXK := Lib.hid hxk
    have hki : (k : Int) < (n : Int) := by omega
    have hkd : decide ((k : Int) ≥ 0) = true := decide_eq_true (by omega)
    clear e1 e2 hfk hp hxk
    go_enter Try.func64, Try.ntmps64
    go_wp2_with fail
    rw [← HW.out]
    refine HP.out.mono ?_
    rintro e w2 ⟨rfl, hb2⟩
    have hbw := HB.out.trans (hb2.mono HB.out.size)
    have hB2 := Blk.below HB2.out hb2 (Blk.lt HB2.out)
    have hx2 := HX.out.below hb2
    have hf := fun i => Blk.frozen hB2 i
    have f0 := hf 0
    have f1 := hf 1
    have f2 := hf 2
    have f3 := hf 3
    have f4 := hf 4
    have f5 := hf 5
    have f6 := hf 6
    obtain ⟨g0, g1, g2, g3, g4, g5, g6⟩ := blk7 hB2
    have hfin := below_put7 hbw (Nat.le_succ w.heap.size) x
    have r := blk7 (blk_put7 x hB2)
    obtain ⟨b, off, rfl, hbl, c0, c1, c2, c3, c4, c5, c6, _⟩ := Nds.at_ hx2 hk
    rw [← HXK.out] at c0 c1 c2 c3 c4 c5 c6
    unfold put7 at hfin r
    obtain ⟨r0, r1, r2, r3, r4, r5, r6⟩ := r
    have HF := Lib.hid hfin
    clear hfin hf hB2 hb2 hbw hx2
    go_wp2_with fail
    exact bodyPost_ret (v := .tuple #[nv x, .bool true]) (by simp [results, Try.results64, go_sem, nv, r0, r1, r2, r3, r4, r5, r6]) rfl ⟨rfl, HF.out⟩
  · obtain ⟨e1, e2⟩ := find_no hfk
    rw [e1, e2]
    rw [hfk] at HP
    clear e1 e2 hfk hall
    go_enter Try.func64, Try.ntmps64
    go_wp2_with fail
    rw [← HW.out]
    refine HP.out.mono ?_
    rintro e w2 ⟨rfl, hb2⟩
    have hbw := HB.out.trans (hb2.mono HB.out.size)
    have hB2 := Blk.below HB2.out hb2 (Blk.lt HB2.out)
    have hf := fun i => Blk.frozen hB2 i
    have f0 := hf 0
    have f1 := hf 1
    have f2 := hf 2
    have f3 := hf 3
    have f4 := hf 4
    have f5 := hf 5
    have f6 := hf 6
    obtain ⟨g0, g1, g2, g3, g4, g5, g6⟩ := blk7 hB2
    have hfin := below_put7 hbw (Nat.le_succ w.heap.size) nd0
    have r := blk7 (blk_put7 nd0 hB2)
    unfold put7 nd0 at hfin r
    obtain ⟨r0, r1, r2, r3, r4, r5, r6⟩ := r
    have HF := Lib.hid hfin
    have he : (bs [] : ByteArray) = ⟨#[]⟩ := rfl
    simp only [he] at r0 r1 r2 r3 r4 r5 r6
    have HF := Lib.hid HF.out
    clear hfin hf hB2 hb2 hbw
    go_wp2_with fail
    exact bodyPost_ret (v := .tuple #[nv nd0, .bool false]) (by simp [results, Try.results64, go_sem, nv, nd0, r0, r1, r2, r3, r4, r5, r6]; rfl) rfl ⟨rfl, HF.out⟩

set_option maxRecDepth 100000 in
set_option maxHeartbeats 1600000 in
theorem rfind_any (s : St) (A : Option Addr) (n c : Nat) (xs : List Nd) (w : World) (hx : Nds w A n c xs) :
    Calls Try.prog 80 #[.slice A n c, sv s] w fun e w' => e = .returned (.tuple #[nv (findN s xs), .bool (hasN s xs)]) ∧ Below w.heap.size w w' := by
  have hn := hx.len
  have hmx := hx.max
  have hle := hx.le
  have hb1 : Below w.heap.size w (w.alloc (.cells #[.int .i64 s.1, .int .i64 s.2] 27)) := (Below.refl _ w).alloc (Nat.le_refl _) _
  have hB := Blk.new w 27 #[.int .i64 s.1, .int .i64 s.2]
  have q0 := hB.cell 0
  have q1 := hB.cell 1
  simp only [List.getElem?_toArray, List.getElem?_cons_zero, List.getElem?_cons_succ] at q0 q1
  have q0 := cell?_alloc_old q0 (.cells (nc nd0).toArray 38)
  have q1 := cell?_alloc_old q1 (.cells (nc nd0).toArray 38)
  have hb2 := hb1.alloc hb1.size (.cells (nc nd0).toArray 38)
  have hB2 := Blk.new (w.alloc (.cells #[.int .i64 s.1, .int .i64 s.2] 27)) 38 (nc nd0).toArray
  have hsz : (w.alloc (.cells #[.int .i64 s.1, .int .i64 s.2] 27)).heap.size = w.heap.size + 1 := Array.size_push _
  rw [hsz] at hB2
  have hx1 := hx.below hb2
  obtain ⟨w1, hw1⟩ : ∃ w1, w1 = (w.alloc (.cells #[.int .i64 s.1, .int .i64 s.2] 27)).alloc (.cells (nc nd0).toArray 38) := ⟨_, rfl⟩
  rw [← hw1] at hB2 hb2 hx1 q0 q1
  have HW := Lib.hid (show w1 = (w.alloc (.cells #[.int .i64 s.1, .int .i64 s.2] 27)).alloc (.cells #[.int .i64 0, .int .i64 0, .bool false, .int .i64 0, .int .i64 0, .string ⟨#[]⟩, .string ⟨#[]⟩] 38) from hw1)
  have HX := Lib.hid hx1
  have HB := Lib.hid hb2
  have HB2 := Lib.hid hB2
  have HP := Lib.hid (at_any s A n c xs w1 hx1)
  clear hw1 hx1 hb1 hB hx hb2 hB2 hsz
  unfold sv at *
  rcases firstI_cases (isId s) xs with ⟨k, hk, hfk, hp⟩ | ⟨hfk, hall⟩
  · obtain ⟨e1, e2⟩ := find_at hk hfk
    rw [e1, e2]
    rw [hfk] at HP
    obtain ⟨x, hxk⟩ : ∃ x, x = xs[k] := ⟨_, rfl⟩
    rw [← hxk]
    have HXK := Lib.hid hxk
    have hki : (k : Int) < (n : Int) := by omega
    have hkd : decide ((k : Int) < 0) = false := decide_eq_false (by omega)
    clear e1 e2 hfk hp hxk
    go_enter Try.func80, Try.ntmps80
    go_wp2_with fail
    rw [← HW.out]
    refine HP.out.mono ?_
    rintro e w2 ⟨rfl, hb2⟩
    have hbw := HB.out.trans (hb2.mono HB.out.size)
    have hB2 := Blk.below HB2.out hb2 (Blk.lt HB2.out)
    have hx2 := HX.out.below hb2
    have hf := fun i => Blk.frozen hB2 i
    have f0 := hf 0
    have f1 := hf 1
    have f2 := hf 2
    have f3 := hf 3
    have f4 := hf 4
    have f5 := hf 5
    have f6 := hf 6
    obtain ⟨g0, g1, g2, g3, g4, g5, g6⟩ := blk7 hB2
    have hfin := below_put7 hbw (Nat.le_succ w.heap.size) x
    have r := blk7 (blk_put7 x hB2)
    obtain ⟨b, off, rfl, hbl, c0, c1, c2, c3, c4, c5, c6, _⟩ := Nds.at_ hx2 hk
    rw [← HXK.out] at c0 c1 c2 c3 c4 c5 c6
    unfold put7 at hfin r
    obtain ⟨r0, r1, r2, r3, r4, r5, r6⟩ := r
    have HF := Lib.hid hfin
    clear hfin hf hB2 hb2 hbw hx2
    go_wp2_with fail
    exact bodyPost_ret (v := .tuple #[nv x, .bool true]) (by simp [results, Try.results80, go_sem, nv, r0, r1, r2, r3, r4, r5, r6]) rfl ⟨rfl, HF.out⟩
  · obtain ⟨e1, e2⟩ := find_no hfk
    rw [e1, e2]
    rw [hfk] at HP
    clear e1 e2 hfk hall
    go_enter Try.func80, Try.ntmps80
    go_wp2_with fail
    rw [← HW.out]
    refine HP.out.mono ?_
    rintro e w2 ⟨rfl, hb2⟩
    have hbw := HB.out.trans (hb2.mono HB.out.size)
    have hB2 := Blk.below HB2.out hb2 (Blk.lt HB2.out)
    have hf := fun i => Blk.frozen hB2 i
    have f0 := hf 0
    have f1 := hf 1
    have f2 := hf 2
    have f3 := hf 3
    have f4 := hf 4
    have f5 := hf 5
    have f6 := hf 6
    obtain ⟨g0, g1, g2, g3, g4, g5, g6⟩ := blk7 hB2
    have hfin := below_put7 hbw (Nat.le_succ w.heap.size) nd0
    have r := blk7 (blk_put7 nd0 hB2)
    unfold put7 nd0 at hfin r
    obtain ⟨r0, r1, r2, r3, r4, r5, r6⟩ := r
    have HF := Lib.hid hfin
    have he : (bs [] : ByteArray) = ⟨#[]⟩ := rfl
    simp only [he] at r0 r1 r2 r3 r4 r5 r6
    have HF := Lib.hid HF.out
    clear hfin hf hB2 hb2 hbw
    go_wp2_with fail
    exact bodyPost_ret (v := .tuple #[nv nd0, .bool false]) (by simp [results, Try.results80, go_sem, nv, nd0, r0, r1, r2, r3, r4, r5, r6]; rfl) rfl ⟨rfl, HF.out⟩

end Go.Proofs.Ytaglomhmnoldlaa
/-! trash, takes, may; some. -/
namespace Go.Proofs.Ytaglomhmnoldlaa
open Go.RowKit
attribute [local go_sem] bs_size bs_getElem bs_list bs_append

theorem trash_st (w : World) : Calls Try.prog 47 #[] w fun e w' => e = .returned (.agg #[.int .i64 0, .int .i64 1]) ∧ Below w.heap.size w w' := by
  have HB := Lib.hid ((Below.refl w.heap.size w).alloc (Nat.le_refl _) (.cells #[.int .i64 0, .int .i64 1] 27))
  go_enter Try.func47, Try.ntmps47
  go_wp2_with fail
  exact bodyPost_ret (v := .agg #[.int .i64 0, .int .i64 1]) (by simp [results, Try.results47, go_sem]) rfl ⟨rfl, HB.out⟩
theorem rtrash_st (w : World) : Calls Try.prog 59 #[] w fun e w' => e = .returned (.agg #[.int .i64 0, .int .i64 1]) ∧ Below w.heap.size w w' := by
  have HB := Lib.hid ((Below.refl w.heap.size w).alloc (Nat.le_refl _) (.cells #[.int .i64 0, .int .i64 1] 27))
  go_enter Try.func59, Try.ntmps59
  go_wp2_with fail
  exact bodyPost_ret (v := .agg #[.int .i64 0, .int .i64 1]) (by simp [results, Try.results59, go_sem]) rfl ⟨rfl, HB.out⟩

/-- may nodes stand below a stamp? -/
def takesB (s : St) (xs : List Nd) : Bool := decide (s = (0, 0)) || hasN s xs && (findN s xs).dir

set_option maxRecDepth 100000 in
set_option maxHeartbeats 1600000 in
theorem takes_any (s : St) (A : Option Addr) (n c : Nat) (xs : List Nd) (w : World) (hx : Nds w A n c xs) :
    Calls Try.prog 46 #[.slice A n c, sv s] w fun e w' => e = .returned (.bool (takesB s xs)) ∧ Below w.heap.size w w' := by
  have hb1 : Below w.heap.size w (w.alloc (.cells #[.int .i64 s.1, .int .i64 s.2] 27)) := (Below.refl _ w).alloc (Nat.le_refl _) _
  have hB := Blk.new w 27 #[.int .i64 s.1, .int .i64 s.2]
  have q0 := hB.cell 0
  have q1 := hB.cell 1
  simp only [List.getElem?_toArray, List.getElem?_cons_zero, List.getElem?_cons_succ] at q0 q1
  have hx1 := hx.below hb1
  have hz := run_eql_st s (0, 0)
  obtain ⟨w1, hw1⟩ : ∃ w1, w1 = w.alloc (.cells #[.int .i64 s.1, .int .i64 s.2] 27) := ⟨_, rfl⟩
  rw [← hw1] at hb1 hx1 q0 q1
  have HW := Lib.hid hw1
  have HB := Lib.hid hb1
  have HF := Lib.hid (find_any s A n c xs w1 hx1)
  clear hw1 hx1 hb1 hB hx
  unfold takesB
  unfold sv nv at *
  by_cases h0 : s = (0, 0)
  · have hd : decide (s = (0, 0)) = true := decide_eq_true h0
    rw [hd, Bool.true_or]
    clear h0
    simp only [hd] at hz
    go_enter Try.func46, Try.ntmps46
    go_wp2_with fail
    rw [← HW.out]
    go_wp2_with fail
    go_ret
    exact ⟨rfl, HB.out⟩
  · have hd : decide (s = (0, 0)) = false := decide_eq_false h0
    rw [hd, Bool.false_or]
    clear h0
    simp only [hd] at hz
    generalize findN s xs = y at *
    go_enter Try.func46, Try.ntmps46
    go_wp2_with fail
    rw [← HW.out]
    go_wp2_with fail
    refine HF.out.mono ?_
    rintro e w2 ⟨rfl, hb2⟩
    have hb3 := HB.out.trans (hb2.mono HB.out.size)
    have hb4 := Lib.hid (hb3.alloc hb3.size (.cells (nc y).toArray 38))
    have g2 := (Blk.new w2 38 (nc y).toArray).cell 2
    unfold nc at g2 hb4
    simp only [List.getElem?_toArray, List.getElem?_cons_zero, List.getElem?_cons_succ] at g2
    clear hb2 hb3
    cases hh : hasN s xs with
    | true =>
      go_wp2_with fail
      go_ret
      exact ⟨by simp [hh], hb4.out⟩
    | false =>
      go_wp2_with fail
      go_ret
      exact ⟨by simp [hh], hb4.out⟩

set_option maxRecDepth 100000 in
set_option maxHeartbeats 1600000 in
theorem may_any (s : St) (A : Option Addr) (n c : Nat) (xs : List Nd) (w : World) (hx : Nds w A n c xs) :
    Calls Try.prog 58 #[.slice A n c, sv s] w fun e w' => e = .returned (.bool (takesB s xs)) ∧ Below w.heap.size w w' := by
  have hb1 : Below w.heap.size w (w.alloc (.cells #[.int .i64 s.1, .int .i64 s.2] 27)) := (Below.refl _ w).alloc (Nat.le_refl _) _
  have hB := Blk.new w 27 #[.int .i64 s.1, .int .i64 s.2]
  have hx1 := hx.below hb1
  have hz := run_eql_st s (0, 0)
  obtain ⟨w1, hw1⟩ : ∃ w1, w1 = w.alloc (.cells #[.int .i64 s.1, .int .i64 s.2] 27) := ⟨_, rfl⟩
  rw [← hw1] at hb1 hx1 hB
  have HW := Lib.hid hw1
  have HB := Lib.hid hb1
  have HBk := Lib.hid hB
  have HF := Lib.hid (rfind_any s A n c xs w1 hx1)
  have q0 := hB.cell 0
  have q1 := hB.cell 1
  simp only [List.getElem?_toArray, List.getElem?_cons_zero, List.getElem?_cons_succ] at q0 q1
  clear hw1 hx1 hb1 hB hx
  unfold takesB
  unfold sv nv at *
  generalize findN s xs = y at *
  cases hd : decide (s = (0, 0)) <;> cases hh : hasN s xs
  all_goals (
    simp only [hd] at hz
    rw [hh] at HF
    clear hd hh
    go_enter Try.func58, Try.ntmps58
    go_wp2_with fail
    rw [← HW.out]
    go_wp2_with fail
    refine HF.out.mono ?_
    rintro e w2 ⟨rfl, hb2⟩
    have hb3 := HB.out.trans (hb2.mono HB.out.size)
    have hb4 := Lib.hid (hb3.alloc hb3.size (.cells (nc y).toArray 38))
    have g2 := (Blk.new w2 38 (nc y).toArray).cell 2
    have hB2 := Blk.below HBk.out hb2 (Blk.lt HBk.out)
    have q0 := cell?_alloc_old (hB2.cell 0) (.cells (nc y).toArray 38)
    have q1 := cell?_alloc_old (hB2.cell 1) (.cells (nc y).toArray 38)
    unfold nc at g2 hb4 q0 q1
    simp only [List.getElem?_toArray, List.getElem?_cons_zero, List.getElem?_cons_succ] at g2 q0 q1
    clear hb2 hb3 hB2
    go_wp2_with fail
    go_ret
    exact ⟨by simp, hb4.out⟩)
end Go.Proofs.Ytaglomhmnoldlaa
/-! has, slices.Index, slices.Contains on stamps. -/
namespace Go.Proofs.Ytaglomhmnoldlaa
open Go.RowKit
attribute [local go_sem] bs_size bs_getElem bs_list bs_append

def SC (cs : List Value) (x : St) : Prop := cs = [.int .i64 x.1, .int .i64 x.2]
/-- a list of stamps -/
abbrev Sts (w : World) (A : Option Addr) (n c : Nat) (xs : List St) : Prop := Sl w 2 SC A n c xs
theorem Sts.at_ {w : World} {A : Option Addr} {n c k : Nat} {xs : List St} (h : Sts w A n c xs) (hk : k < xs.length) :
    ∃ b off, A = some ⟨b, off, none⟩ ∧ b < w.heap.size ∧ w.cell? ⟨b, off + k * 2, none⟩ = some (.int .i64 xs[k].1) ∧ w.cell? ⟨b, off + k * 2 + 1, none⟩ = some (.int .i64 xs[k].2) := by
  obtain ⟨b, off, cs, e, hlt, hl, rfl, hc⟩ := h.4 k hk
  exact ⟨b, off, e, hlt, by have := hc 0 _ rfl; simpa using this, hc 1 _ rfl⟩
def placeS (s : St) (xs : List St) : Int := match xs.findIdx? (fun x => decide (x = s)) with
  | some i => i
  | none => -1
theorem placeS_at {s : St} {xs : List St} {k : Nat} (hk : k < xs.length) (h : decide (xs[k] = s) = true) (hall : ∀ j (hj : j < xs.length), j < k → decide (xs[j] = s) = false) : placeS s xs = k := by
  have h1 : xs.findIdx? (fun x => decide (x = s)) = some k := by
    rw [List.findIdx?_eq_some_iff_getElem]
    exact ⟨hk, h, fun j hj => by rw [hall j (by omega) hj]; simp⟩
  unfold placeS; rw [h1]
theorem placeS_none {s : St} {xs : List St} (hall : ∀ j (hj : j < xs.length), decide (xs[j] = s) = false) : placeS s xs = -1 := by
  have h1 : xs.findIdx? (fun x => decide (x = s)) = none := by
    rw [List.findIdx?_eq_none_iff]
    intro x hx
    obtain ⟨j, hj, rfl⟩ := List.mem_iff_getElem.1 hx
    exact hall j hj
  unfold placeS; rw [h1]
theorem placeS_has (s : St) (xs : List St) : decide (placeS s xs ≥ 0) = decide (s ∈ xs) := by
  unfold placeS
  cases h : xs.findIdx? (fun x => decide (x = s)) with
  | none =>
    have := List.findIdx?_eq_none_iff.1 h
    have hn : s ∉ xs := fun hm => by have := this s hm; simp at this
    simp [hn]
  | some k =>
    obtain ⟨hk, h1, _⟩ := List.findIdx?_eq_some_iff_getElem.1 h
    have hm : s ∈ xs := by
      have : xs[k] = s := of_decide_eq_true h1
      rw [← this]; exact List.getElem_mem hk
    simp [hm]

set_option maxRecDepth 100000 in
set_option maxHeartbeats 1600000 in
theorem has_st (s : St) (A : Option Addr) (n c : Nat) (xs : List St) (w : World) (hx : Sts w A n c xs) :
    Calls Try.prog 60 #[.slice A n c, sv s] w fun e w' => e = .returned (.bool (decide (s ∈ xs))) ∧ Below w.heap.size w w' := by
  have hb1 : Below w.heap.size w (w.alloc (.cells #[.int .i64 s.1, .int .i64 s.2] 27)) := (Below.refl _ w).alloc (Nat.le_refl _) _
  have hB := Blk.new w 27 #[.int .i64 s.1, .int .i64 s.2]
  have hx1 := hx.below hb1
  have q0 := hB.cell 0
  have q1 := hB.cell 1
  simp only [List.getElem?_toArray, List.getElem?_cons_zero, List.getElem?_cons_succ] at q0 q1
  have hn := hx.len
  have hmx := hx.max
  have hle := hx.le
  obtain ⟨w1, hw1⟩ : ∃ w1, w1 = w.alloc (.cells #[.int .i64 s.1, .int .i64 s.2] 27) := ⟨_, rfl⟩
  rw [← hw1] at hB hb1 hx1 q0 q1
  have HW := Lib.hid hw1
  have HX := Lib.hid hx1
  have HB := Lib.hid hb1
  have hs := hb1.size
  obtain ⟨B, hBe⟩ : ∃ B, B = w.heap.size := ⟨_, rfl⟩
  have hB1 := cell_lt q0
  rw [← hBe] at q0 q1 hB1
  have HBe := Lib.hid hBe
  have HQ0 := Lib.hid q0
  have HQ1 := Lib.hid q1
  clear hw1 hx1 hb1 hB hx hBe q0 q1 hs
  unfold sv
  go_enter Try.func60, Try.ntmps60
  go_wp2_with fail
  rw [← HW.out, ← HBe.out]
  go_loopw [5] (fun i wr => ∃ k : Nat, k ≤ xs.length ∧ i = .int .i64 k ∧ Below w1.heap.size w1 wr ∧ ∀ j (hj : j < xs.length), j < k → decide (xs[j] = s) = false) (fun i _ => xs.length - (intOf i).toNat)
  case atStart => exact ⟨0, by omega, rfl, Below.refl _ _, fun j _ h => by omega⟩
  case round =>
    obtain ⟨k, hk, rfl, hb, hall⟩ := hrel
    have hbw := HB.out.trans (hb.mono HB.out.size)
    rcases Nat.lt_or_ge k xs.length with hlt | hge
    · obtain ⟨b, off, rfl, hbl, c0, c1⟩ := Sts.at_ (HX.out.below hb) hlt
      have q0 := cell_below hb hB1 HQ0.out
      have q1 := cell_below hb hB1 HQ1.out
      have HA := Lib.hid hall
      obtain ⟨x, hx⟩ : ∃ x, xs[k] = x := ⟨_, rfl⟩
      rw [hx] at c0 c1
      have he := run_eql_st x s
      have HX2 := Lib.hid hx
      have HB4 := Lib.hid hb
      have hki : (k : Int) < (n : Int) := by omega
      clear hall hx hb
      cases hc : decide (x = s) with
      | true =>
        go_wp2_with fail
        go_quiet (fail)
        have hb5 := Lib.hid (below_drewN hbw nq)
        go_wp2_with fail
        have hfin : decide (s ∈ xs) = true := decide_eq_true ((show xs[k] = s by rw [HX2.out]; exact of_decide_eq_true hc) ▸ List.getElem_mem hlt)
        go_ret
        exact ⟨by rw [hfin]; rfl, hb5.out⟩
      | false =>
        go_wp2_with fail
        go_quiet (fail)
        have hb5 := Lib.hid (below_drewN HB4.out nq)
        go_wp2_with fail
        exact ⟨⟨k + 1, by omega, by go_num, hb5.out, fun j hj hjk => by
          by_cases e : j = k
          · subst e; rw [HX2.out]; exact hc
          · exact HA.out j hj (by omega)⟩, by simp [intOf]; omega⟩
    · have hkn : ¬ (k : Int) < (n : Int) := by omega
      have hfin : decide (s ∈ xs) = false := decide_eq_false fun hm => by
        obtain ⟨j, hj, e⟩ := List.mem_iff_getElem.1 hm
        have := hall j hj (by omega)
        rw [e] at this; simp at this
      clear hall
      go_wp2_with fail
      go_ret
      exact ⟨rfl, hbw⟩
set_option maxRecDepth 100000 in
set_option maxHeartbeats 1600000 in
theorem index_st (s : St) (A : Option Addr) (n c : Nat) (xs : List St) (w : World) (hx : Sts w A n c xs) :
    Calls Try.prog 83 #[.slice A n c, sv s] w fun e w' => e = .returned (.int .i64 (placeS s xs)) ∧ Below w.heap.size w w' := by
  have hb1 : Below w.heap.size w (w.alloc (.cells #[.int .i64 s.1, .int .i64 s.2] 27)) := (Below.refl _ w).alloc (Nat.le_refl _) _
  have hB := Blk.new w 27 #[.int .i64 s.1, .int .i64 s.2]
  have hx1 := hx.below hb1
  have q0 := hB.cell 0
  have q1 := hB.cell 1
  simp only [List.getElem?_toArray, List.getElem?_cons_zero, List.getElem?_cons_succ] at q0 q1
  have hn := hx.len
  have hmx := hx.max
  have hle := hx.le
  obtain ⟨w1, hw1⟩ : ∃ w1, w1 = w.alloc (.cells #[.int .i64 s.1, .int .i64 s.2] 27) := ⟨_, rfl⟩
  rw [← hw1] at hB hb1 hx1 q0 q1
  have HW := Lib.hid hw1
  have HX := Lib.hid hx1
  have HB := Lib.hid hb1
  have hs := hb1.size
  obtain ⟨B, hBe⟩ : ∃ B, B = w.heap.size := ⟨_, rfl⟩
  have hB1 := cell_lt q0
  rw [← hBe] at q0 q1 hB1
  have HBe := Lib.hid hBe
  have HQ0 := Lib.hid q0
  have HQ1 := Lib.hid q1
  clear hw1 hx1 hb1 hB hx hBe q0 q1 hs
  unfold sv
  go_enter Try.func83, Try.ntmps83
  go_wp2_with fail
  rw [← HW.out, ← HBe.out]
  go_loopw [8] (fun i wr => ∃ k : Nat, k ≤ xs.length ∧ i = .int .i64 k ∧ Below w1.heap.size w1 wr ∧ ∀ j (hj : j < xs.length), j < k → decide (xs[j] = s) = false) (fun i _ => xs.length - (intOf i).toNat)
  case atStart => exact ⟨0, by omega, rfl, Below.refl _ _, fun j _ h => by omega⟩
  case round =>
    obtain ⟨k, hk, rfl, hb, hall⟩ := hrel
    have hbw := HB.out.trans (hb.mono HB.out.size)
    rcases Nat.lt_or_ge k xs.length with hlt | hge
    · obtain ⟨b, off, rfl, hbl, c0, c1⟩ := Sts.at_ (HX.out.below hb) hlt
      have q0 := cell_below hb hB1 HQ0.out
      have q1 := cell_below hb hB1 HQ1.out
      have HA := Lib.hid hall
      obtain ⟨x, hx⟩ : ∃ x, xs[k] = x := ⟨_, rfl⟩
      rw [hx] at c0 c1
      have he := run_eql_st s x
      have hsx : decide (s = x) = decide (x = s) := decide_eq_decide.2 ⟨Eq.symm, Eq.symm⟩
      rw [hsx] at he
      have HX2 := Lib.hid hx
      have HB4 := Lib.hid hb
      have hki : (k : Int) < (n : Int) := by omega
      clear hall hx hb
      cases hc : decide (x = s) with
      | true =>
        go_wp2_with fail
        go_quiet (fail)
        have hb5 := Lib.hid (below_drewN hbw nq)
        go_wp2_with fail
        have hfin : placeS s xs = k := placeS_at hlt (by rw [HX2.out]; exact hc) HA.out
        go_ret
        exact ⟨by rw [hfin]; rfl, hb5.out⟩
      | false =>
        go_wp2_with fail
        go_quiet (fail)
        have hb5 := Lib.hid (below_drewN HB4.out nq)
        go_wp2_with fail
        exact ⟨⟨k + 1, by omega, by go_num, hb5.out, fun j hj hjk => by
          by_cases e : j = k
          · subst e; rw [HX2.out]; exact hc
          · exact HA.out j hj (by omega)⟩, by simp [intOf]; omega⟩
    · have hkn : ¬ (k : Int) < (n : Int) := by omega
      have hfin : placeS s xs = -1 := placeS_none fun j hj => hall j hj (by omega)
      clear hall
      go_wp2_with fail
      go_ret
      exact ⟨rfl, hbw⟩
set_option maxRecDepth 100000 in
theorem contains_st (s : St) (A : Option Addr) (n c : Nat) (xs : List St) (w : World) (hx : Sts w A n c xs) :
    Calls Try.prog 67 #[.slice A n c, sv s] w fun e w' => e = .returned (.bool (decide (s ∈ xs))) ∧ Below w.heap.size w w' := by
  have hb1 : Below w.heap.size w (w.alloc (.cells #[.int .i64 s.1, .int .i64 s.2] 27)) := (Below.refl _ w).alloc (Nat.le_refl _) _
  have HI := Lib.hid (index_st s A n c xs _ (hx.below hb1))
  have HB := Lib.hid hb1
  rw [← placeS_has]
  clear hb1 hx
  unfold sv at *
  go_enter Try.func67, Try.ntmps67
  go_wp2_with fail
  refine HI.out.mono ?_
  rintro e w2 ⟨rfl, hb2⟩
  have hb3 := HB.out.trans (hb2.mono HB.out.size)
  go_wp2_with fail
  go_ret
  exact ⟨rfl, hb3⟩

end Go.Proofs.Ytaglomhmnoldlaa
/-! Children of both: lists of one's own. -/
namespace Go.Proofs.Ytaglomhmnoldlaa
open Go.RowKit
attribute [local go_sem] bs_size bs_getElem bs_list bs_append

def ncs (l : List Nd) : List Value := l.flatMap nc
theorem ncs_append (a b : List Nd) : ncs (a ++ b) = ncs a ++ ncs b := by simp [ncs]
theorem ncs_len (l : List Nd) : (ncs l).length = l.length * 7 := by
  induction l with
  | nil => rfl
  | cons x l ih => simp only [ncs, List.flatMap_cons, List.length_append, List.length_cons] at ih ⊢; rw [ih]; simp [nc]; omega
theorem ncs_at (l : List Nd) (k j : Nat) (hk : k < l.length) (hj : j < 7) : (ncs l)[k * 7 + j]? = (nc l[k])[j]? := by
  induction l generalizing k with
  | nil => simp at hk
  | cons x l ih =>
    cases k with
    | zero =>
      simp only [ncs, List.flatMap_cons]
      rw [List.getElem?_append_left (by simp [nc]; omega)]
      simp
    | succ k =>
      have := ih k (by simpa using hk)
      simp only [ncs, List.flatMap_cons] at this ⊢
      rw [List.getElem?_append_right (by simp [nc]; omega)]
      rw [show (k + 1) * 7 + j - (nc x).length = k * 7 + j from by simp [nc]; omega, this]
      simp
/-- strings are no longer than can be -/
def Short (xs : List Nd) : Prop := ∀ x ∈ xs, x.nm.length ≤ 9223372036854775807 ∧ x.mf.length ≤ 9223372036854775807
/-- a list of nodes of one's own -/
abbrev Own (w : World) (B : Nat) (v : Value) (xs : List Nd) : Prop := OwnC w B 7 v xs.length (ncs xs)
theorem Nds.short {w : World} {A : Option Addr} {n c : Nat} {xs : List Nd} (h : Nds w A n c xs) : Short xs := fun x hx => by
  obtain ⟨j, hj, rfl⟩ := List.mem_iff_getElem.1 hx
  obtain ⟨b, off, cs, e, hlt, hl, ⟨_, h1, h2⟩, hc⟩ := h.4 j hj
  exact ⟨h1, h2⟩
theorem Own.nds {w : World} {B : Nat} {v : Value} {xs : List Nd} (h : Own w B v xs) (hs : Short xs) : ∃ A c, v = .slice A xs.length c ∧ Nds w A xs.length c xs := by
  rcases h.2 with ⟨rfl, h0⟩ | ⟨g, cap, rfl, hb, hlt, hnc, hcm, _, _, hx⟩
  · obtain rfl : xs = [] := List.eq_nil_of_length_eq_zero h0
    exact ⟨none, 0, rfl, Sl.nil_⟩
  · refine ⟨_, cap, rfl, rfl, hnc, by unfold maxLen at hcm; omega, fun i hi => ⟨g, 0, nc xs[i], rfl, hlt, rfl, ⟨rfl, hs _ (List.getElem_mem hi)⟩, fun j u hu => ?_⟩⟩
    have hj : j < 7 := by
      rcases Nat.lt_or_ge j 7 with h | h
      · exact h
      · rw [List.getElem?_eq_none (by simpa [nc] using h)] at hu; cases hu
    rw [Nat.zero_add]
    exact hx _ u (by rw [ncs_at xs i j hi hj]; exact hu)
theorem info37 : (Try.prog.info? 38).map (fun i => (i.zero, i.size, i.bytes)) = some (some (.agg #[.int .i64 0, .int .i64 0, .bool false, .int .i64 0, .int .i64 0, .string ⟨#[]⟩, .string ⟨#[]⟩]), 7, 72) := by kernel_rfl
theorem nc_one (x : Nd) : ∀ u ∈ nc x, u.oneCell' = true := by
  intro u hu
  simp [nc] at hu
  rcases hu with rfl | rfl | rfl | rfl | rfl | rfl | rfl <;> rfl
/-- one node handed to append -/
theorem Src.nd {w : World} {g c : Nat} (x : Nd) (h : Blk w g 38 (nc x).toArray) : Src Try.prog 7 32 (.slice (some ⟨g, 0, none⟩) 1 c) 1 (nc x) w :=
  Src.ofSlice w Try.underlying32 ⟨g, 0, none⟩ 1 c (nc x) rfl (fun j u hu => by
    have : (Addr.mk g 0 none).add j = ⟨g, j, none⟩ := by unfold Addr.add; split <;> simp_all
    rw [this, h.cell]
    simpa using hu) (nc_one x)
theorem OwnC.isSlice {w : World} {B size n : Nat} {v : Value} {xs : List Value} (h : OwnC w B size v n xs) : ∃ A c, v = .slice A n c := by
  rcases h.2 with ⟨rfl, rfl⟩ | ⟨g, cap, rfl, _⟩
  · exact ⟨_, _, rfl⟩
  · exact ⟨_, _, rfl⟩
theorem Blk.new2 (w : World) (o : Obj) (t : TypeId) (cs : Array Value) : Blk ((w.alloc o).alloc (.cells cs t)) (w.heap.size + 1) t cs := by
  have := Blk.new (w.alloc o) t cs
  rwa [show (w.alloc o).heap.size = w.heap.size + 1 from Array.size_push _] at this
theorem Own.snoc {w : World} {B : Nat} {v : Value} {xs : List Nd} {x : Nd} (h : OwnC w B 7 v (xs.length + 1) (ncs xs ++ nc x)) : Own w B v (xs ++ [x]) := by
  unfold Own
  rw [ncs_append, List.length_append]
  simpa [ncs] using h
/-- the nodes of a parent -/
def kidsN (s : St) (xs : List Nd) : List Nd := xs.filter fun x => decide (x.par = s)
theorem kids_succ (s : St) (xs : List Nd) (k : Nat) (h : k < xs.length) : kidsN s (xs.take (k + 1)) = kidsN s (xs.take k) ++ (if xs[k].par = s then [xs[k]] else []) := by
  unfold kidsN
  rw [List.take_succ_eq_append_getElem h, List.filter_append]
  congr 1
  by_cases c : xs[k].par = s <;> simp [c]
theorem kids_len (s : St) (xs : List Nd) (k : Nat) : (kidsN s (xs.take k)).length ≤ k := Nat.le_trans (List.length_filter_le _ _) (by rw [List.length_take]; omega)

end Go.Proofs.Ytaglomhmnoldlaa
/-! Less of both; Same, stamps, some. -/
namespace Go.Proofs.Ytaglomhmnoldlaa
open Go.RowKit
attribute [local go_sem] bs_size bs_getElem bs_list bs_append

def lessS (a b : St) : Bool := decide (a.1 < b.1) || (decide (a.1 = b.1) && decide (a.2 < b.2))

set_option maxRecDepth 100000 in
theorem less_any (a b : St) (w : World) : Calls Try.prog 15 #[sv a, sv b] w fun e w' => e = .returned (.bool (lessS a b)) ∧ Below w.heap.size w w' := by
  have hb := ((Below.refl w.heap.size w).alloc (Nat.le_refl _) (.cells #[.int .i64 a.1, .int .i64 a.2] 27)).alloc (by simp) (.cells #[.int .i64 b.1, .int .i64 b.2] 27)
  have HB := Lib.hid hb
  clear hb
  unfold sv
  by_cases h : a.1 = b.1
  · have e : (a.1 == b.1) = true := beq_iff_eq.2 h
    have hf : lessS a b = decide (a.2 < b.2) := by unfold lessS; simp [h]
    rw [hf]
    have e2 : (a.1 != b.1) = false := by simp [h]
    clear h hf
    go_enter Try.func15, Try.ntmps15
    go_wp2_with fail
    go_ret
    exact ⟨rfl, HB.out⟩
  · have e : (a.1 == b.1) = false := beq_eq_false_iff_ne.2 h
    have e2 : (a.1 != b.1) = true := by simp [h]
    have hf : lessS a b = decide (a.1 < b.1) := by unfold lessS; simp [h]
    rw [hf]
    clear h hf
    go_enter Try.func15, Try.ntmps15
    go_wp2_with fail
    go_ret
    exact ⟨rfl, HB.out⟩

set_option maxRecDepth 100000 in
theorem rless_any (a b : St) (w : World) : Calls Try.prog 34 #[sv a, sv b] w fun e w' => e = .returned (.bool (lessS a b)) ∧ Below w.heap.size w w' := by
  have hb := ((Below.refl w.heap.size w).alloc (Nat.le_refl _) (.cells #[.int .i64 a.1, .int .i64 a.2] 27)).alloc (by simp) (.cells #[.int .i64 b.1, .int .i64 b.2] 27)
  have HB := Lib.hid hb
  clear hb
  unfold sv lessS
  have heq : decide (a.1 = b.1) = (a.1 == b.1) := rfl
  rw [heq]
  cases h1 : decide (a.1 < b.1) <;> cases h2 : (a.1 == b.1)
  all_goals (
    go_enter Try.func34, Try.ntmps34
    go_wp2_with fail
    go_ret
    exact ⟨by simp, HB.out⟩)

theorem run_neq_nd (x : Nd) (w : World) : (binOp .neq 38 (nv x) (nv x)).run Try.prog w = .ok (.bool false) w := by
  unfold nv
  simp [go_sem]
theorem run_eql_nd (x : Nd) (w : World) : (binOp .eql 38 (nv x) (nv x)).run Try.prog w = .ok (.bool true) w := by
  unfold nv
  simp [go_sem]
theorem run_neq_st (x : St) (w : World) : (binOp .neq 27 (sv x) (sv x)).run Try.prog w = .ok (.bool false) w := by
  unfold sv
  simp [go_sem]

set_option maxRecDepth 100000 in
set_option maxHeartbeats 1600000 in
/-- two lists that are the same -/
theorem same_any (A A2 : Option Addr) (n c c2 : Nat) (xs : List Nd) (w : World) (hx : Nds w A n c xs) (hy : Nds w A2 n c2 xs) :
    Calls Try.prog 20 #[.slice A n c, .slice A2 n c2] w fun e w' => e = .returned (.bool true) ∧ Below w.heap.size w w' := by
  have hn := hx.len
  have hmx := hx.max
  have hle := hx.le
  have hmy := hy.max
  have hley := hy.le
  have HX := Lib.hid hx
  have HY := Lib.hid hy
  clear hx hy
  go_enter Try.func20, Try.ntmps20
  go_wp2_with fail
  go_loopw [5] (fun i wr => ∃ k : Nat, k ≤ n ∧ i = .int .i64 k ∧ Below w.heap.size w wr) (fun i _ => n - (intOf i).toNat)
  case atStart => exact ⟨0, by omega, rfl, Below.refl _ _⟩
  case round =>
    obtain ⟨k, hk, rfl, hb⟩ := hrel
    rcases Nat.lt_or_ge k n with hlt | hge
    · have hki : (k : Int) < (n : Int) := by omega
      obtain ⟨b, off, rfl, hbl, c0, c1, c2, c3, c4, c5, c6, _⟩ := Nds.at_ (HX.out.below hb) (by omega : k < xs.length)
      obtain ⟨b2, off2, rfl, hbl2, d0, d1, d2, d3, d4, d5, d6, _⟩ := Nds.at_ (HY.out.below hb) (by omega : k < xs.length)
      generalize xs[k] = x at *
      have he := run_neq_nd x
      unfold nv at he
      have HB := Lib.hid hb
      clear hb
      go_wp2_with fail
      go_quiet (fail)
      have hb5 := Lib.hid (below_drewN HB.out nq)
      go_wp2_with fail
      exact ⟨⟨k + 1, by omega, by go_num, hb5.out⟩, by simp [intOf]; omega⟩
    · have hkn : ¬ (k : Int) < (n : Int) := by omega
      have HB := Lib.hid hb
      clear hb
      go_wp2_with fail
      go_ret
      exact ⟨rfl, HB.out⟩

/-- a yes says that there are few -/
def SomeR (n : Nat) (e : Ending) : Prop := ∃ r, e = .returned (.bool r) ∧ (r = true → n ≤ 150)

end Go.Proofs.Ytaglomhmnoldlaa
/-! What stands above a node; lists of stamps of one's own; the map of those that were met. -/
namespace Go.Proofs.Ytaglomhmnoldlaa
open Go.RowKit
attribute [local go_sem] bs_size bs_getElem bs_list bs_append

/-! ### the map of stamps -/
theorem eq_st (x y : St) (w : World) : (Op.equalIn 10000 27 (sv x) (sv y)).run Try.prog w = .ok (decide (x = y)) w := by
  obtain ⟨a1, a2⟩ := x
  obtain ⟨b1, b2⟩ := y
  unfold sv
  by_cases h1 : a1 = b1 <;> by_cases h2 : a2 = b2 <;> simp [go_sem, h1, h2]
theorem check_st (e : Bool) (x : St) (n : Nat) (w : World) : (Instr.checkKey e (n + 2) 27 (sv x)).run Try.prog w = .ok () w := by
  unfold sv
  simp [go_sem, Instr.checkKey, run_underlying Try.underlying27, run_underlying Try.underlying3]
theorem mapSt : MapTy Try.prog sv 110 27 4 (.bool false) where
  map_ := by kernel_rfl
  zero := fun w => by simp [go_sem]
  eq := fun x y w => eq_st x y w
  check := fun e x w => check_st e x 9998 w
  wide := ⟨_, Try.underlying27, fun a b => rfl⟩
  bits := fun s => by simp [Instr.sameBits, sv]
section
variable {K : Type} [DecidableEq K] {P : Program} {kv : K → Value} {mt kt et : TypeId} {z : Value}
/-- m[k] = v -/
theorem MapF.update (M : MapTy P kv mt kt et z) {w : World} {b : Nat} {f : K → Option Value} (h : MapF kv w b f) (k : K) (v : Value) :
    ∃ w1, (Instr.mapUpdate mt (.map (some b)) (kv k) v).run P w = .ok () w1 ∧ MapF kv w1 b (fun k' => if k' = k then some v else f k') ∧ w.grownBy w1 (some b) ∧ w1.heap.size = w.heap.size := by
  obtain ⟨ms, c, hb, hnd, hlt, hf⟩ := h
  have hfi := finding M k w ms
  cases hp : place ms k with
  | some p =>
    obtain ⟨i, e⟩ := p
    obtain ⟨hi, hek⟩ := place_at hp
    have hmod : ((ms.map (ent kv)).toArray.modify i fun x => { x with key := kv k, val := v }) = ((setAt ms i v).map (ent kv)).toArray := by
      apply Array.ext_getElem?
      intro j
      simp only [setAt, Array.getElem?_modify, List.getElem?_toArray, List.getElem?_map, List.getElem?_modify]
      by_cases cj : i = j
      · subst cj; simp [hi, ent, hek]
      · simp [cj]
    obtain ⟨w1, hr, hb1, hg1, hs1⟩ := set_obj (P := P) (.map ((setAt ms i v).map (ent kv)).toArray c) hb
    refine ⟨w1, ?_, ⟨_, c, hb1, by rw [setAt_born]; exact hnd, fun x hx => ?_, fun k' => ?_⟩, hg1, hs1⟩
    · simp only [Instr.mapUpdate, Sem.run_bind, run_underlying M.map_, Go.MapKept.run_getObj_map hb, Result.andThen_ok, M.check, hfi, hp, Option.map_some]
      have h1 : ((ms.map (ent kv)).toArray[i]?) = some (ent kv e) := by simp [hi]
      rw [h1]
      simp only [Option.map_some, Option.getD_some]
      rw [show (ent kv e).key = kv k from by rw [← hek]; rfl]
      simp only [Instr.keyThatStays, M.bits, if_true, Sem.run_pure, Result.andThen_ok, hmod, hr]
    · have : x.2.2 ∈ (setAt ms i v).map (·.2.2) := List.mem_map.2 ⟨x, hx, rfl⟩
      rw [setAt_born] at this
      obtain ⟨y, hy, e⟩ := List.mem_map.1 this
      rw [← e]; exact hlt y hy
    · show get (setAt ms i v) k' = if k' = k then some v else f k'
      rw [get_setAt hp, hf k']
  | none =>
    have hpush : ((ms.map (ent kv)).toArray.push { key := kv k, val := v, born := c }) = ((ms ++ [(k, v, c)]).map (ent kv)).toArray := by simp [ent]
    obtain ⟨w1, hr, hb1, hg1, hs1⟩ := set_obj (P := P) (.map ((ms ++ [(k, v, c)]).map (ent kv)).toArray (c + 1)) hb
    have hnd1 : ((ms ++ [(k, v, c)]).map (·.2.2)).Nodup := by
      rw [List.map_append]
      refine List.nodup_append.2 ⟨hnd, by simp, ?_⟩
      intro a ha b hb'
      obtain ⟨x, hx, rfl⟩ := List.mem_map.1 ha
      simp at hb'
      have := hlt x hx
      omega
    have hlt1 : ∀ e ∈ ms ++ [(k, v, c)], e.2.2 < c + 1 := by
      intro e he
      rcases List.mem_append.1 he with h | h
      · have := hlt e h; omega
      · simp at h; rw [h]; exact Nat.lt_succ_self _
    refine ⟨w1, ?_, ⟨_, c + 1, hb1, hnd1, hlt1, fun k' => ?_⟩, hg1, hs1⟩
    · simp only [Instr.mapUpdate, Sem.run_bind, run_underlying M.map_, Go.MapKept.run_getObj_map hb, Result.andThen_ok, M.check, hfi, hp, Option.map_none, hpush, hr]
    · show get (ms ++ [(k, v, c)]) k' = if k' = k then some v else f k'
      rw [get_push hp, hf k']
end
/-- the map of those that were met -/
def Met (w : World) (M : Nat) (l : List St) : Prop := ∃ f, MapF sv w M f ∧ ∀ s, (f s).getD (.bool false) = .bool (decide (s ∈ l))
theorem Met.new (w : World) : Met (w.alloc (.map #[] 0)) w.heap.size [] := ⟨_, MapF.new w, fun s => by simp⟩
theorem Met.heap {w w' : World} {M : Nat} {l : List St} (h : Met w M l) (hb : w'.heap[M]? = w.heap[M]?) : Met w' M l := by
  obtain ⟨f, h1, h2⟩ := h
  exact ⟨f, h1.heap hb, h2⟩
theorem Met.lt {w : World} {M : Nat} {l : List St} (h : Met w M l) : M < w.heap.size := by
  obtain ⟨f, h1, _⟩ := h
  exact h1.lt
theorem Met.look {w : World} {M : Nat} {l : List St} (h : Met w M l) (s : St) : (Instr.lookup 110 (.map (some M)) (sv s) false).run Try.prog w = .ok (.bool (decide (s ∈ l))) w := by
  obtain ⟨f, h1, h2⟩ := h
  rw [h1.look mapSt s, h2]
theorem Met.add {w : World} {M : Nat} {l : List St} (h : Met w M l) (s : St) :
    ∃ w1, (Instr.mapUpdate 110 (.map (some M)) (sv s) (.bool true)).run Try.prog w = .ok () w1 ∧ Met w1 M (l ++ [s]) ∧ w.grownBy w1 (some M) ∧ w1.heap.size = w.heap.size := by
  obtain ⟨f, h1, h2⟩ := h
  obtain ⟨w1, e1, e2, e3, e4⟩ := h1.update mapSt s (.bool true)
  refine ⟨w1, e1, ⟨_, e2, fun x => ?_⟩, e3, e4⟩
  by_cases c : x = s
  · simp [c]
  · simp only [if_neg c]
    rw [h2 x]
    simp [c]
theorem run_make (w : World) : (Instr.makeMap 110 none).run Try.prog w = .ok (.map (some w.heap.size)) (w.alloc (.map #[] 0)) := by simp [Instr.makeMap, go_sem]

/-! ### what stands above -/
def chainG (xs : List Nd) : Nat → List St → St → List St
  | 0, out, _ => out
  | f + 1, out, id => if id ∈ out then out else if hasN id xs then chainG xs f (out ++ [id]) (findN id xs).par else if out = [] then [] else out ++ [id]
def left (xs : List Nd) (out : List St) : Nat := (xs.filter fun x => decide (x.id ∉ out)).length
theorem filt_lt {p q : Nd → Bool} {xs : List Nd} (h : ∀ x, q x = true → p x = true) {x : Nd} (hx : x ∈ xs) (hp : p x = true) (hq : q x = false) : (xs.filter q).length < (xs.filter p).length := by
  have hle : ∀ ys : List Nd, (ys.filter q).length ≤ (ys.filter p).length := fun ys => by
    induction ys with
    | nil => simp
    | cons y ys ih =>
      simp only [List.filter_cons]
      cases hqy : q y with
      | true => rw [h y hqy]; simp; exact ih
      | false => cases p y <;> simp <;> omega
  induction xs with
  | nil => cases hx
  | cons y ys ih =>
    simp only [List.filter_cons]
    rcases List.mem_cons.1 hx with rfl | hx
    · rw [hp, hq]; simp; have := hle ys; omega
    · have := ih hx
      cases hqy : q y with
      | true => rw [h y hqy]; simp; exact this
      | false => cases p y <;> simp <;> omega
theorem has_mem {s : St} {xs : List Nd} (h : hasN s xs = true) : findN s xs ∈ xs ∧ (findN s xs).id = s := by
  unfold hasN at h
  unfold findN
  cases hf : xs.find? (isId s) with
  | none => rw [hf] at h; cases h
  | some x =>
    have h1 := List.find?_some hf
    exact ⟨List.mem_of_find?_eq_some hf, of_decide_eq_true h1⟩
theorem left_lt {xs : List Nd} {out : List St} {s : St} (h : hasN s xs = true) (hs : s ∉ out) : left xs (out ++ [s]) < left xs out := by
  obtain ⟨h1, h2⟩ := has_mem h
  refine filt_lt (fun x hx => ?_) h1 (by rw [h2]; simp [hs]) (by rw [h2]; simp)
  simp at hx ⊢
  exact hx.1
theorem left_nil (xs : List Nd) : left xs [] ≤ xs.length := List.length_filter_le _ _
/-- the chain of a stamp -/
def chainN (xs : List Nd) (s : St) : List St := chainG xs (xs.length + 1) [] s
end Go.Proofs.Ytaglomhmnoldlaa
/-! Chain. -/
namespace Go.Proofs.Ytaglomhmnoldlaa
open Go.RowKit
attribute [local go_sem] bs_size bs_getElem bs_list bs_append run_make

def sc (s : St) : List Value := [.int .i64 s.1, .int .i64 s.2]
def scs (l : List St) : List Value := l.flatMap sc
theorem scs_append (a b : List St) : scs (a ++ b) = scs a ++ scs b := by simp [scs]
theorem scs_at (l : List St) (k j : Nat) (hk : k < l.length) (hj : j < 2) : (scs l)[k * 2 + j]? = (sc l[k])[j]? := by
  induction l generalizing k with
  | nil => simp at hk
  | cons x l ih =>
    cases k with
    | zero =>
      simp only [scs, List.flatMap_cons]
      rw [List.getElem?_append_left (by simp [sc]; omega)]
      simp
    | succ k =>
      have := ih k (by simpa using hk)
      simp only [scs, List.flatMap_cons] at this ⊢
      rw [List.getElem?_append_right (by simp [sc]; omega)]
      rw [show (k + 1) * 2 + j - (sc x).length = k * 2 + j from by simp [sc]; omega, this]
      simp
/-- a list of stamps of one's own -/
abbrev OwnS (w : World) (B : Nat) (v : Value) (l : List St) : Prop := OwnC w B 2 v l.length (scs l)
theorem OwnS.sts {w : World} {B : Nat} {v : Value} {xs : List St} (h : OwnS w B v xs) : ∃ A c, v = .slice A xs.length c ∧ Sts w A xs.length c xs := by
  rcases h.2 with ⟨rfl, h0⟩ | ⟨g, cap, rfl, hb, hlt, hnc, hcm, _, _, hx⟩
  · obtain rfl : xs = [] := List.eq_nil_of_length_eq_zero h0
    exact ⟨none, 0, rfl, Sl.nil_⟩
  · refine ⟨_, cap, rfl, rfl, hnc, by unfold maxLen at hcm; omega, fun i hi => ⟨g, 0, sc xs[i], rfl, hlt, rfl, rfl, fun j u hu => ?_⟩⟩
    have hj : j < 2 := by
      rcases Nat.lt_or_ge j 2 with h | h
      · exact h
      · rw [List.getElem?_eq_none (by simpa [sc] using h)] at hu; cases hu
    rw [Nat.zero_add]
    exact hx _ u (by rw [scs_at xs i j hi hj]; exact hu)
theorem OwnS.snoc {w : World} {B : Nat} {v : Value} {xs : List St} {x : St} (h : OwnC w B 2 v (xs.length + 1) (scs xs ++ sc x)) : OwnS w B v (xs ++ [x]) := by
  unfold OwnS
  rw [scs_append, List.length_append]
  simpa [scs] using h
theorem info30 : (Try.prog.info? 27).map (fun i => (i.zero, i.size, i.bytes)) = some (some (.agg #[.int .i64 0, .int .i64 0]), 2, 16) := by kernel_rfl
theorem Src.st {w : World} {g c : Nat} (x : St) (h : Blk w g 27 #[.int .i64 x.1, .int .i64 x.2]) : Src Try.prog 2 91 (.slice (some ⟨g, 0, none⟩) 1 c) 1 (sc x) w :=
  Src.ofSlice w Try.underlying91 ⟨g, 0, none⟩ 1 c (sc x) rfl (fun j u hu => by
    have : (Addr.mk g 0 none).add j = ⟨g, j, none⟩ := by unfold Addr.add; split <;> simp_all
    rw [this, h.cell]
    simpa [sc] using hu) (by
    intro u hu
    simp [sc] at hu
    rcases hu with rfl | rfl <;> rfl)
def lenV (v : Value) : Nat := match v with
  | .slice _ n _ => n
  | _ => 0
/-- what holds while a chain is gone up -/
structure Up (B0 : Nat) (w0 wr : World) (M : Nat) (u : Value) (out : List St) (id : St) : Prop where
  blk : Blk wr B0 27 #[.int .i64 id.1, .int .i64 id.2]
  met : Met wr M out
  own : OwnS wr (B0 + 2) u out
  below : Below B0 w0 wr
theorem Up.stay {B0 : Nat} {w0 wr w' : World} {M : Nat} {u : Value} {out : List St} {id : St} (h : Up B0 w0 wr M u out id) (hb : Below wr.heap.size wr w') (hs : B0 ≤ wr.heap.size) : Up B0 w0 w' M u out id :=
  ⟨h.blk.below hb h.blk.lt, h.met.heap (hb.block M h.met.lt), h.own.below hb, h.below.trans (hb.mono hs)⟩
/-- behind the map's turn -/
theorem Up.mark {B0 : Nat} {w0 wr w' : World} {u : Value} {out : List St} {id : St} (h : Up B0 w0 wr (B0 + 1) u out id) (hg : wr.grownBy w' (some (B0 + 1))) (hs : B0 ≤ wr.heap.size) : Blk w' B0 27 #[.int .i64 id.1, .int .i64 id.2] ∧ OwnS w' (B0 + 2) u out ∧ Below B0 w0 w' :=
  ⟨h.blk.grown hg (fun e => by have := Option.some.inj e; omega), h.own.kept hg (by
    rcases hq : u.ownBlock with _ | k
    · exact .inl rfl
    · exact .inr (by have := (h.own.ge k hq).1; intro e; have := Option.some.inj e; omega)), below_gb h.below hg (Nat.le_succ _) hs⟩

set_option maxRecDepth 100000 in
set_option maxHeartbeats 3200000 in
theorem chain_any (s : St) (A : Option Addr) (n c : Nat) (xs : List Nd) (w : World) (hx : Nds w A n c xs) (hm : n ≤ 1000000) :
    Calls Try.prog 68 #[.slice A n c, sv s] w fun e w' => ∃ v, e = .returned v ∧ OwnS w' w.heap.size v (chainN xs s) ∧ Below w.heap.size w w' := by
  obtain ⟨i0, hi0, hz0, hz1, hz2⟩ := info_parts info30
  have hn := hx.len
  have hb1 : Below w.heap.size w (w.alloc (.cells #[.int .i64 s.1, .int .i64 s.2] 27)) := (Below.refl _ w).alloc (Nat.le_refl _) _
  have hB := (Blk.new w 27 #[.int .i64 s.1, .int .i64 s.2]).alloc (.map #[] 0)
  have hb2 := hb1.alloc hb1.size (.map #[] 0)
  have hM := Met.new (w.alloc (.cells #[.int .i64 s.1, .int .i64 s.2] 27))
  rw [show (w.alloc (.cells #[.int .i64 s.1, .int .i64 s.2] 27)).heap.size = w.heap.size + 1 from Array.size_push _] at hM
  have hU : Up w.heap.size w ((w.alloc (.cells #[.int .i64 s.1, .int .i64 s.2] 27)).alloc (.map #[] 0)) (w.heap.size + 1) (.slice none 0 0) [] s := ⟨hB, hM, OwnC.nil_ _ _ _, hb2⟩
  obtain ⟨w1, hw1⟩ : ∃ w1, w1 = (w.alloc (.cells #[.int .i64 s.1, .int .i64 s.2] 27)).alloc (.map #[] 0) := ⟨_, rfl⟩
  rw [← hw1] at hU
  have HW := Lib.hid hw1
  have HX := Lib.hid hx
  have HU := Lib.hid hU
  have HI := Lib.hid hi0
  have HZ0 := Lib.hid hz0
  have HZ1 := Lib.hid hz1
  have HZ2 := Lib.hid hz2
  have hl0 : left xs [] + ([] : List St).length ≤ xs.length := left_nil xs
  have hl1 : left xs [] < xs.length + 1 := Nat.lt_succ_of_le (left_nil xs)
  have HL0 := Lib.hid hl0
  have HL1 := Lib.hid hl1
  clear hw1 hx hb1 hb2 hB hM hi0 hz0 hz1 hz2 hU hl0 hl1
  unfold sv
  go_enter Try.func68, Try.ntmps68
  go_wp2_with fail
  rw [← HW.out]
  go_loopw [6] (fun u wr => ∃ (f : Nat) (out : List St) (id : St), Up w.heap.size w wr (w.heap.size + 1) u out id ∧ left xs out + out.length ≤ xs.length ∧ left xs out < f ∧ chainG xs f out id = chainN xs s) (fun u _ => xs.length - lenV u)
  case atStart => exact ⟨_, [], s, HU.out, HL0.out, HL1.out, rfl⟩
  case round =>
    obtain ⟨f, out, id, hU, hl, hf, hR⟩ := hrel
    obtain ⟨A2, c2, rfl⟩ := OwnC.isSlice hU.own
    have hs : w.heap.size ≤ wr.heap.size := Nat.le_of_lt hU.blk.lt
    obtain ⟨f, rfl⟩ : ∃ g, f = g + 1 := ⟨f - 1, by omega⟩
    unfold chainG at hR
    have hlk := hU.met.look id
    have q0 := hU.blk.cell 0
    have q1 := hU.blk.cell 1
    simp only [List.getElem?_toArray, List.getElem?_cons_zero, List.getElem?_cons_succ] at q0 q1
    unfold sv at hlk
    have HUr := Lib.hid hU
    have HXr := Lib.hid (HX.out.below (hU.below))
    have hq0l := hU.blk.lt
    clear hU
    by_cases hin : id ∈ out
    · rw [if_pos hin] at hR
      have hd : decide (id ∈ out) = true := decide_eq_true hin
      rw [hd] at hlk
      have HR := Lib.hid hR
      have hO := HUr.out.own.mono (Nat.le_add_right w.heap.size 2)
      have HO := Lib.hid hO
      have HB := Lib.hid HUr.out.below
      clear hin hd hR hO
      go_wp2_with fail
      go_ret
      exact ⟨_, rfl, by rw [← HR.out]; exact HO.out, HB.out⟩
    rw [if_neg hin] at hR
    have hd : decide (id ∈ out) = false := decide_eq_false hin
    rw [hd] at hlk
    have HNin := Lib.hid hin
    clear hin hd
    have hfd := find_any id A n c xs wr HXr.out
    obtain ⟨y, hy⟩ : ∃ y, y = findN id xs := ⟨_, rfl⟩
    rw [← hy] at hfd hR
    unfold sv nv at hfd
    have HY := Lib.hid hy
    clear hy
    cases hh : hasN id xs with
    | false =>
      rw [hh] at hfd hR
      simp only [Bool.false_eq_true, if_false] at hR
      have HFd := Lib.hid hfd
      have HR := Lib.hid hR
      have HH := Lib.hid hh
      clear hfd hR hh
      cases hout : out with
      | nil =>
        subst hout
        go_wp2_with fail
        refine HFd.out.mono ?_
        rintro e w2 ⟨rfl, hb2⟩
        have hb3 := HUr.out.below.trans (hb2.mono hs)
        have HB4 := Lib.hid (hb3.alloc hb3.size (.cells #[.int .i64 y.id.1, .int .i64 y.id.2, .bool y.dir, .int .i64 y.par.1, .int .i64 y.par.2, .string (bs y.nm), .string (bs y.mf)] 38))
        have hR := HR.out
        simp only [if_true] at hR
        have HR := Lib.hid hR
        clear hb2 hb3 hR
        go_wp2_with fail
        go_ret
        exact ⟨_, rfl, by rw [← HR.out]; exact OwnC.nil_ _ _ _, HB4.out⟩
      | cons o0 or =>
        rw [← hout]
        have hone : out ≠ [] := by rw [hout]; simp
        have hR := HR.out
        rw [if_neg hone] at hR
        have HR := Lib.hid hR
        have hol : ((out.length : Nat) : Int) ≠ 0 := by rw [hout]; simp; omega
        have hol2 : (((out.length : Nat) : Int) == 0) = false := beq_eq_false_iff_ne.2 hol
        clear hone hR hout
        go_wp2_with fail
        refine HFd.out.mono ?_
        rintro e w2 ⟨rfl, hb2⟩
        have hb3 : Below wr.heap.size wr (w2.alloc (.cells #[.int .i64 y.id.1, .int .i64 y.id.2, .bool y.dir, .int .i64 y.par.1, .int .i64 y.par.2, .string (bs y.nm), .string (bs y.mf)] 38)) := hb2.alloc hb2.size _
        have hU3 := HUr.out.stay hb3 hs
        have hN3 : Blk (w2.alloc (.cells #[.int .i64 y.id.1, .int .i64 y.id.2, .bool y.dir, .int .i64 y.par.1, .int .i64 y.par.2, .string (bs y.nm), .string (bs y.mf)] 38)) w2.heap.size 38 (nc y).toArray := Blk.new w2 38 (nc y).toArray
        have hs2 : wr.heap.size ≤ w2.heap.size := hb2.size
        have hs3 : w.heap.size ≤ (w2.alloc (.cells #[.int .i64 y.id.1, .int .i64 y.id.2, .bool y.dir, .int .i64 y.par.1, .int .i64 y.par.2, .string (bs y.nm), .string (bs y.mf)] 38)).heap.size := Nat.le_of_lt hU3.blk.lt
        obtain ⟨w4, hup, hM4, hg4, hsz4⟩ := hU3.met.add id
        obtain ⟨hB4, hO4, hb4⟩ := hU3.mark hg4 hs3
        have hml := HUr.out.met.lt
        have hN4 := hN3.grown hg4 (by intro e; have := Option.some.inj e; omega)
        have r0 := hU3.blk.cell 0
        have r1 := hU3.blk.cell 1
        have t0 := hB4.cell 0
        have t1 := hB4.cell 1
        simp only [List.getElem?_toArray, List.getElem?_cons_zero, List.getElem?_cons_succ] at r0 r1 t0 t1
        unfold sv at hup
        have hs4 : w.heap.size + 1 < w4.heap.size := by rw [hsz4]; exact hU3.met.lt
        have hs5 : w2.heap.size < w4.heap.size := hN4.lt
        have HO5 := Lib.hid (hO4.alloc (.cells #[.int .i64 id.1, .int .i64 id.2] 27))
        have HB5 := Lib.hid (hb4.alloc (Nat.le_of_lt (Nat.lt_of_succ_lt hs4)) (.cells #[.int .i64 id.1, .int .i64 id.2] 27))
        have HBr5 := Lib.hid (hB4.alloc (.cells #[.int .i64 id.1, .int .i64 id.2] 27))
        have HN5 := Lib.hid (hN4.alloc (.cells #[.int .i64 id.1, .int .i64 id.2] 27))
        have HM5 := Lib.hid (hM4.heap (Below.heap_alloc w4 (.cells #[.int .i64 id.1, .int .i64 id.2] 27) _ hM4.lt))
        have HS5 := Lib.hid (show w.heap.size + 2 ≤ (w4.alloc (.cells #[.int .i64 id.1, .int .i64 id.2] 27)).heap.size by simp; omega)
        have HS6 := Lib.hid hs5
        have HS10 := Lib.hid (show wr.heap.size ≤ w2.heap.size from hs2)
        have HS7 := Lib.hid hs4
        have hn6 : out.length ≤ 1000000 := by omega
        have HS8 := Lib.hid (show w.heap.size < w2.heap.size by omega)
        have HS9 := Lib.hid (show w.heap.size + 1 < w2.heap.size by have := HUr.out.met.lt; omega)
        clear hb2 hb3 hU3 hN3 hM4 hg4 hsz4 hB4 hO4 hb4 hN4 hs2 hs3 hs4 hs5
        go_wp2_with (at_builtin; refine wpList_append_C _ rfl (.tmp 29) (.tmp 31) 91 91 rfl 27 i0 (.agg #[.int .i64 0, .int .i64 0]) 2 Try.underlying91 HI.out HZ0.out HZ1.out rfl (by decide) (w.heap.size + 2) _ out.length (scs out) rfl HO5.out (.slice (some ⟨w4.heap.size, 0, none⟩) 1 1) rfl 1 (sc id) ?c1 ?c3 ?c4 ?c5 ?_)
        case c1 => exact Src.st id (Blk.new _ _ _)
        case c3 => unfold maxLen; omega
        case c4 => rw [HZ2.out]; omega
        case c5 => exact HS5.out
        intro v' w6 hown hgrow hat
        have HOn := Lib.hid (OwnS.snoc hown)
        have HBn := Lib.hid (gb_own HB5.out (Nat.le_add_right _ 2) (Nat.le_trans (Nat.le_add_right _ 2) HS5.out) HO5.out hgrow)
        have HBrn := Lib.hid (Blk.grown HBr5.out hgrow (fun e => by have := (HO5.out.ge _ e.symm).1; omega))
        have HMn := Lib.hid (HM5.out.heap (hgrow.block _ HM5.out.lt (fun e => by have := (HO5.out.ge _ e.symm).1; omega)))
        have hne6 : (Value.slice A2 out.length c2).ownBlock ≠ some w2.heap.size := fun e => by
          have h1 := (HUr.out.own.ge _ e).2
          have := HS10.out
          omega
        have HPar := Lib.hid (blk7 (Blk.grown HN5.out hgrow (fun e => hne6 e.symm)))
        clear hown hgrow hat hne6
        go_wp2_with fail
        go_ret
        exact ⟨_, rfl, by rw [← HR.out]; exact HOn.out.mono (Nat.le_add_right w.heap.size 2), HBn.out⟩
    | true =>
      rw [hh] at hfd hR
      simp only [if_true] at hR
      have HFd := Lib.hid hfd
      have HR := Lib.hid hR
      have hll := left_lt hh HNin.out
      have HLL := Lib.hid hll
      clear hfd hR hh hll
      go_wp2_with fail
      refine HFd.out.mono ?_
      rintro e w2 ⟨rfl, hb2⟩
      have hb3 : Below wr.heap.size wr (w2.alloc (.cells #[.int .i64 y.id.1, .int .i64 y.id.2, .bool y.dir, .int .i64 y.par.1, .int .i64 y.par.2, .string (bs y.nm), .string (bs y.mf)] 38)) := hb2.alloc hb2.size _
      have hU3 := HUr.out.stay hb3 hs
      have hN3 : Blk (w2.alloc (.cells #[.int .i64 y.id.1, .int .i64 y.id.2, .bool y.dir, .int .i64 y.par.1, .int .i64 y.par.2, .string (bs y.nm), .string (bs y.mf)] 38)) w2.heap.size 38 (nc y).toArray := Blk.new w2 38 (nc y).toArray
      have hs2 : wr.heap.size ≤ w2.heap.size := hb2.size
      have hs3 : w.heap.size ≤ (w2.alloc (.cells #[.int .i64 y.id.1, .int .i64 y.id.2, .bool y.dir, .int .i64 y.par.1, .int .i64 y.par.2, .string (bs y.nm), .string (bs y.mf)] 38)).heap.size := Nat.le_of_lt hU3.blk.lt
      obtain ⟨w4, hup, hM4, hg4, hsz4⟩ := hU3.met.add id
      obtain ⟨hB4, hO4, hb4⟩ := hU3.mark hg4 hs3
      have hml := HUr.out.met.lt
      have hN4 := hN3.grown hg4 (by intro e; have := Option.some.inj e; omega)
      have r0 := hU3.blk.cell 0
      have r1 := hU3.blk.cell 1
      have t0 := hB4.cell 0
      have t1 := hB4.cell 1
      simp only [List.getElem?_toArray, List.getElem?_cons_zero, List.getElem?_cons_succ] at r0 r1 t0 t1
      unfold sv at hup
      have hs4 : w.heap.size + 1 < w4.heap.size := by rw [hsz4]; exact hU3.met.lt
      have hs5 : w2.heap.size < w4.heap.size := hN4.lt
      have HO5 := Lib.hid (hO4.alloc (.cells #[.int .i64 id.1, .int .i64 id.2] 27))
      have HB5 := Lib.hid (hb4.alloc (Nat.le_of_lt (Nat.lt_of_succ_lt hs4)) (.cells #[.int .i64 id.1, .int .i64 id.2] 27))
      have HBr5 := Lib.hid (hB4.alloc (.cells #[.int .i64 id.1, .int .i64 id.2] 27))
      have HN5 := Lib.hid (hN4.alloc (.cells #[.int .i64 id.1, .int .i64 id.2] 27))
      have HM5 := Lib.hid (hM4.heap (Below.heap_alloc w4 (.cells #[.int .i64 id.1, .int .i64 id.2] 27) _ hM4.lt))
      have HS5 := Lib.hid (show w.heap.size + 2 ≤ (w4.alloc (.cells #[.int .i64 id.1, .int .i64 id.2] 27)).heap.size by simp; omega)
      have HS6 := Lib.hid hs5
      have HS10 := Lib.hid (show wr.heap.size ≤ w2.heap.size from hs2)
      have HS7 := Lib.hid hs4
      have hn6 : out.length ≤ 1000000 := by omega
      have HS8 := Lib.hid (show w.heap.size < w2.heap.size by omega)
      have HS9 := Lib.hid (show w.heap.size + 1 < w2.heap.size by have := HUr.out.met.lt; omega)
      clear hb2 hb3 hU3 hN3 hM4 hg4 hsz4 hB4 hO4 hb4 hN4 hs2 hs3 hs4 hs5
      go_wp2_with (at_builtin; refine wpList_append_C _ rfl (.tmp 29) (.tmp 31) 91 91 rfl 27 i0 (.agg #[.int .i64 0, .int .i64 0]) 2 Try.underlying91 HI.out HZ0.out HZ1.out rfl (by decide) (w.heap.size + 2) _ out.length (scs out) rfl HO5.out (.slice (some ⟨w4.heap.size, 0, none⟩) 1 1) rfl 1 (sc id) ?c1 ?c3 ?c4 ?c5 ?_)
      case c1 => exact Src.st id (Blk.new _ _ _)
      case c3 => unfold maxLen; omega
      case c4 => rw [HZ2.out]; omega
      case c5 => exact HS5.out
      intro v' w6 hown hgrow hat
      have HOn := Lib.hid (OwnS.snoc hown)
      have HBn := Lib.hid (gb_own HB5.out (Nat.le_add_right _ 2) (Nat.le_trans (Nat.le_add_right _ 2) HS5.out) HO5.out hgrow)
      have HBrn := Lib.hid (Blk.grown HBr5.out hgrow (fun e => by have := (HO5.out.ge _ e.symm).1; omega))
      have HMn := Lib.hid (HM5.out.heap (hgrow.block _ HM5.out.lt (fun e => by have := (HO5.out.ge _ e.symm).1; omega)))
      have hne6 : (Value.slice A2 out.length c2).ownBlock ≠ some w2.heap.size := fun e => by
        have h1 := (HUr.out.own.ge _ e).2
        have := HS10.out
        omega
      have HPar := Lib.hid (blk7 (Blk.grown HN5.out hgrow (fun e => hne6 e.symm)))
      clear hown hgrow hat hne6
      have hq := HBrn.out
      have f0 := hq.frozen 0
      have f1 := hq.frozen 1
      have g0 := hq.cell 0
      have g1 := hq.cell 1
      simp only [List.getElem?_toArray, List.getElem?_cons_zero, List.getElem?_cons_succ] at g0 g1
      have hset := Blk.set_ (Blk.set_ hq 0 (.int .i64 y.par.1)) 1 (.int .i64 y.par.2)
      have hset : Blk ((w6.setCell ⟨w.heap.size, 0, none⟩ (.int .i64 y.par.1)).setCell ⟨w.heap.size, 1, none⟩ (.int .i64 y.par.2)) w.heap.size 27 #[.int .i64 y.par.1, .int .i64 y.par.2] := by simpa using hset
      have hgs : w6.grownBy ((w6.setCell ⟨w.heap.size, 0, none⟩ (.int .i64 y.par.1)).setCell ⟨w.heap.size, 1, none⟩ (.int .i64 y.par.2)) (some w.heap.size) := gb_setCell (p := ⟨w.heap.size, 1, none⟩) (gb_setCell (p := ⟨w.heap.size, 0, none⟩) (gb_refl _ _) (.inl rfl) _) (.inl rfl) _
      have hUn : Up w.heap.size w ((w6.setCell ⟨w.heap.size, 0, none⟩ (.int .i64 y.par.1)).setCell ⟨w.heap.size, 1, none⟩ (.int .i64 y.par.2)) (w.heap.size + 1) v' (out ++ [id]) y.par :=
        ⟨hset, HMn.out.heap (hgs.block _ HMn.out.lt (by intro e; have := Option.some.inj e; omega)), HOn.out.kept hgs (by
          rcases hqq : v'.ownBlock with _ | k
          · exact .inl rfl
          · exact .inr (by have := (HOn.out.ge k hqq).1; intro e; have := Option.some.inj e; omega)), below_gb HBn.out hgs (Nat.le_refl _) (Nat.le_of_lt hq.lt)⟩
      have hpar := HPar.out
      have HUn := Lib.hid hUn
      obtain ⟨A3, c3, rfl⟩ := OwnC.isSlice HOn.out
      clear hset hgs hUn hq
      go_wp2_with fail
      have hLL := HLL.out
      exact ⟨⟨f, out ++ [id], y.par, HUn.out, by simp; omega, by omega, by rw [HY.out]; rw [HY.out] at HR; exact HR.out⟩, by simp [lenV]; omega⟩
end Go.Proofs.Ytaglomhmnoldlaa
/-! Chain of the document. -/
namespace Go.Proofs.Ytaglomhmnoldlaa
open Go.RowKit
attribute [local go_sem] bs_size bs_getElem bs_list bs_append

/-- what holds while the document goes up -/
structure RUp (B0 NB : Nat) (w0 wr : World) (u : Value) (out : List St) (id : St) (y : Nd) : Prop where
  blk : Blk wr B0 27 #[.int .i64 id.1, .int .i64 id.2]
  node : Blk wr NB 38 (nc y).toArray
  own : OwnS wr (NB + 1) u out
  below : Below B0 w0 wr
theorem RUp.stay {B0 NB : Nat} {w0 wr w' : World} {u : Value} {out : List St} {id : St} {y : Nd} (h : RUp B0 NB w0 wr u out id y) (hb : Below wr.heap.size wr w') : RUp B0 NB w0 w' u out id y :=
  ⟨h.blk.below hb h.blk.lt, h.node.below hb h.node.lt, h.own.below hb, h.below.trans (hb.mono (Nat.le_of_lt h.blk.lt))⟩
/-- behind an append to the list -/
theorem RUp.grew {B0 NB : Nat} {w0 wr w' : World} {u v : Value} {out out' : List St} {id : St} {y : Nd} (h : RUp B0 NB w0 wr u out id y) (hBN : B0 < NB) (hg : wr.grownBy w' u.ownBlock) (ho : OwnS w' (NB + 1) v out') : RUp B0 NB w0 w' v out' id y :=
  ⟨h.blk.grown hg (fun e => by have := (h.own.ge _ e.symm).1; omega), h.node.grown hg (fun e => by have := (h.own.ge _ e.symm).1; omega), ho, gb_own h.below (by omega) (Nat.le_of_lt h.blk.lt) h.own hg⟩
theorem RUp.par {B0 NB : Nat} {w0 wr : World} {u : Value} {out : List St} {id : St} {y : Nd} (h : RUp B0 NB w0 wr u out id y) (hBN : B0 < NB) (p : St) : RUp B0 NB w0 ((wr.setCell ⟨B0, 0, none⟩ (.int .i64 p.1)).setCell ⟨B0, 1, none⟩ (.int .i64 p.2)) u out p y := by
  have hset := Blk.set_ (Blk.set_ h.blk 0 (.int .i64 p.1)) 1 (.int .i64 p.2)
  have hgs : wr.grownBy ((wr.setCell ⟨B0, 0, none⟩ (.int .i64 p.1)).setCell ⟨B0, 1, none⟩ (.int .i64 p.2)) (some B0) := gb_setCell (p := ⟨B0, 1, none⟩) (gb_setCell (p := ⟨B0, 0, none⟩) (gb_refl _ _) (.inl rfl) _) (.inl rfl) _
  exact ⟨by simpa using hset, h.node.grown hgs (fun e => by have := Option.some.inj e; omega), h.own.kept hgs (by
    rcases hqq : u.ownBlock with _ | k
    · exact .inl rfl
    · exact .inr (by have := (h.own.ge k hqq).1; intro e; have := Option.some.inj e; omega)), below_gb h.below hgs (Nat.le_refl _) (Nat.le_of_lt h.blk.lt)⟩
theorem grown_put7 (w : World) (B : Nat) (x : Nd) : w.grownBy (put7 w B x) (some B) :=
  gb_setCell (p := ⟨B, 6, none⟩) (gb_setCell (p := ⟨B, 5, none⟩) (gb_setCell (p := ⟨B, 4, none⟩) (gb_setCell (p := ⟨B, 3, none⟩) (gb_setCell (p := ⟨B, 2, none⟩) (gb_setCell (p := ⟨B, 1, none⟩) (gb_setCell (p := ⟨B, 0, none⟩) (gb_refl _ _) (.inl rfl) _) (.inl rfl) _) (.inl rfl) _) (.inl rfl) _) (.inl rfl) _) (.inl rfl) _) (.inl rfl) _
theorem RUp.turn {B0 NB : Nat} {w0 wr : World} {u : Value} {out : List St} {id : St} {y : Nd} (h : RUp B0 NB w0 wr u out id y) (hBN : B0 < NB) (z : Nd) : RUp B0 NB w0 (put7 wr NB z) u out id z :=
  ⟨h.blk.grown (grown_put7 wr NB z) (fun e => by have := Option.some.inj e; omega), blk_put7 z h.node, h.own.kept (grown_put7 wr NB z) (by
    rcases hqq : u.ownBlock with _ | k
    · exact .inl rfl
    · exact .inr (by have := (h.own.ge k hqq).1; intro e; have := Option.some.inj e; omega)), below_gb h.below (grown_put7 wr NB z) (Nat.le_of_lt hBN) (Nat.le_of_lt h.blk.lt)⟩

set_option maxRecDepth 100000 in
set_option maxHeartbeats 3200000 in
theorem rchain_any (s : St) (A : Option Addr) (n c : Nat) (xs : List Nd) (w : World) (hx : Nds w A n c xs) (hm : n ≤ 1000000) :
    Calls Try.prog 61 #[.slice A n c, sv s] w fun e w' => ∃ v, e = .returned v ∧ OwnS w' w.heap.size v (chainN xs s) ∧ Below w.heap.size w w' := by
  obtain ⟨i0, hi0, hz0, hz1, hz2⟩ := info_parts info30
  have hn := hx.len
  have hb1 : Below w.heap.size w (w.alloc (.cells #[.int .i64 s.1, .int .i64 s.2] 27)) := (Below.refl _ w).alloc (Nat.le_refl _) _
  have hB := Blk.new w 27 #[.int .i64 s.1, .int .i64 s.2]
  obtain ⟨w1, hw1⟩ : ∃ w1, w1 = w.alloc (.cells #[.int .i64 s.1, .int .i64 s.2] 27) := ⟨_, rfl⟩
  rw [← hw1] at hb1 hB
  have q0 := hB.cell 0
  have q1 := hB.cell 1
  simp only [List.getElem?_toArray, List.getElem?_cons_zero, List.getElem?_cons_succ] at q0 q1
  have hfd := rfind_any s A n c xs w1 (hx.below hb1)
  obtain ⟨y0, hy0⟩ : ∃ y, y = findN s xs := ⟨_, rfl⟩
  rw [← hy0] at hfd
  unfold sv nv at hfd
  have HFd := Lib.hid hfd
  have HW := Lib.hid hw1
  have HX := Lib.hid hx
  have HB1 := Lib.hid hb1
  have HBk := Lib.hid hB
  have HI := Lib.hid hi0
  have HZ0 := Lib.hid hz0
  have HZ1 := Lib.hid hz1
  have HZ2 := Lib.hid hz2
  have HY0 := Lib.hid hy0
  clear hw1 hx hb1 hB hi0 hz0 hz1 hz2 hfd hy0
  unfold sv
  go_enter Try.func61, Try.ntmps61
  go_wp2_with fail
  rw [← HW.out]
  go_wp2_with fail
  refine HFd.out.mono ?_
  rintro e w2 ⟨rfl, hb2⟩
  have hb3 := HB1.out.trans (hb2.mono HB1.out.size)
  have hBl := HBk.out.below hb2 HBk.out.lt
  have hU : RUp w.heap.size w2.heap.size w (w2.alloc (.cells #[.int .i64 y0.id.1, .int .i64 y0.id.2, .bool y0.dir, .int .i64 y0.par.1, .int .i64 y0.par.2, .string (bs y0.nm), .string (bs y0.mf)] 38)) (.slice none 0 0) [] s y0 :=
    ⟨hBl.alloc _, Blk.new w2 38 (nc y0).toArray, OwnC.nil_ _ _ _, hb3.alloc hb3.size _⟩
  have hBN : w.heap.size < w2.heap.size := hBl.lt
  have HU := Lib.hid hU
  have HL0 := Lib.hid (show left xs [] + ([] : List St).length ≤ xs.length from left_nil xs)
  have HL1 := Lib.hid (show left xs [] < xs.length + 1 from Nat.lt_succ_of_le (left_nil xs))
  clear hb2 hb3 hBl hU q0 q1
  go_wp2_with fail
  obtain ⟨NB, hNB⟩ : ∃ NB, NB = w2.heap.size := ⟨_, rfl⟩
  rw [← hNB] at HU hBN
  rw [← hNB]
  clear hNB
  go_loopw [5, 7] (fun u i wr => ∃ (f : Nat) (out : List St) (id : St), RUp w.heap.size NB w wr u out id (findN id xs) ∧ i = .bool (hasN id xs) ∧ left xs out + out.length ≤ xs.length ∧ left xs out < f ∧ (∀ j ∈ out, hasN j xs = true) ∧ chainG xs f out id = chainN xs s) (fun u _ _ => xs.length - lenV u)
  case atStart => exact ⟨_, [], s, HY0.out ▸ HU.out, rfl, HL0.out, HL1.out, fun j hj => (List.not_mem_nil hj).elim, rfl⟩
  case round =>
    obtain ⟨f, out, id, hU, rfl, hl, hf, hall, hR⟩ := hrel
    obtain ⟨A2, c2, rfl⟩ := OwnC.isSlice hU.own
    obtain ⟨f, rfl⟩ : ∃ g, f = g + 1 := ⟨f - 1, by omega⟩
    unfold chainG at hR
    have q0 := hU.blk.cell 0
    have q1 := hU.blk.cell 1
    simp only [List.getElem?_toArray, List.getElem?_cons_zero, List.getElem?_cons_succ] at q0 q1
    have hn6 : out.length ≤ 1000000 := by omega
    have hs : w.heap.size < wr.heap.size := hU.blk.lt
    have hs2 : NB < wr.heap.size := hU.node.lt
    have HUr := Lib.hid hU
    have HAll := Lib.hid hall
    clear hU hall
    cases hh : hasN id xs with
    | false =>
      have hin : id ∉ out := fun h => by have := HAll.out id h; rw [hh] at this; cases this
      rw [if_neg hin, hh] at hR
      simp only [Bool.false_eq_true, if_false] at hR
      have HR := Lib.hid hR
      clear hR hh hin
      rcases Nat.eq_zero_or_pos out.length with h0 | h0
      · obtain rfl : out = [] := List.eq_nil_of_length_eq_zero h0
        have hR := HR.out
        simp only [if_true] at hR
        have HR := Lib.hid hR
        have HO := Lib.hid (HUr.out.own.mono (show w.heap.size ≤ NB + 1 by omega))
        have HB := Lib.hid HUr.out.below
        clear hR h0
        go_wp2_with fail
        go_ret
        exact ⟨_, rfl, by rw [← HR.out]; exact HO.out, HB.out⟩
      · have hne : out ≠ [] := fun e => by rw [e] at h0; simp at h0
        have hR := HR.out
        rw [if_neg hne] at hR
        have HR := Lib.hid hR
        have hol : decide (((out.length : Nat) : Int) > 0) = true := decide_eq_true (by omega)
        have hU4 := HUr.out.stay ((Below.refl _ wr).alloc (Nat.le_refl _) (.cells #[.int .i64 id.1, .int .i64 id.2] 27))
        have HU4 := Lib.hid hU4
        have HS4 := Lib.hid (show NB + 1 ≤ (wr.alloc (.cells #[.int .i64 id.1, .int .i64 id.2] 27)).heap.size by simp; omega)
        clear hR hne hU4
        go_wp2_with (at_builtin; refine wpList_append_C _ rfl (.tmp 40) (.tmp 42) 91 91 rfl 27 i0 (.agg #[.int .i64 0, .int .i64 0]) 2 Try.underlying91 HI.out HZ0.out HZ1.out rfl (by decide) (NB + 1) _ out.length (scs out) rfl HU4.out.own (.slice (some ⟨wr.heap.size, 0, none⟩) 1 1) rfl 1 (sc id) ?c1 ?c3 ?c4 ?c5 ?_)
        case c1 => exact Src.st id (Blk.new _ _ _)
        case c3 => unfold maxLen; omega
        case c4 => rw [HZ2.out]; omega
        case c5 => exact HS4.out
        intro v' w6 hown hgrow hat
        have hU6 := HU4.out.grew hBN hgrow (OwnS.snoc hown)
        have HO := Lib.hid (hU6.own.mono (show w.heap.size ≤ NB + 1 by omega))
        have HB := Lib.hid hU6.below
        clear hown hgrow hat hU6
        go_wp2_with fail
        go_ret
        exact ⟨_, rfl, by rw [← HR.out]; exact HO.out, HB.out⟩
    | true =>
      obtain ⟨A3, c3, e3, hst⟩ := HUr.out.own.sts
      cases e3
      have HHas := Lib.hid (has_st id A2 out.length c2 out wr hst)
      have hh2 := HHas.out
      unfold sv at hh2
      have HHas := Lib.hid hh2
      clear hst hh2
      by_cases hin : id ∈ out
      · rw [if_pos hin] at hR
        have hd : decide (id ∈ out) = true := decide_eq_true hin
        rw [hd] at HHas
        have HR := Lib.hid hR
        have h0 : 0 < out.length := List.length_pos_of_mem hin
        clear hR hin hd hh
        go_wp2_with fail
        refine HHas.out.mono ?_
        rintro e w3 ⟨rfl, hb3⟩
        have hU3 := HUr.out.stay hb3
        have HO := Lib.hid (hU3.own.mono (show w.heap.size ≤ NB + 1 by omega))
        have HB := Lib.hid hU3.below
        clear hb3 hU3
        go_wp2_with fail
        go_ret
        exact ⟨_, rfl, by rw [← HR.out]; exact HO.out, HB.out⟩
      · rw [if_neg hin, hh] at hR
        simp only [if_true] at hR
        have hd : decide (id ∈ out) = false := decide_eq_false hin
        rw [hd] at HHas
        have HLL := Lib.hid (left_lt hh hin)
        have HHh := Lib.hid hh
        have HR := Lib.hid hR
        clear hR hin hd hh
        go_wp2_with fail
        refine HHas.out.mono ?_
        rintro e w3 ⟨rfl, hb3⟩
        have hU3 := HUr.out.stay hb3
        have r0 := hU3.blk.cell 0
        have r1 := hU3.blk.cell 1
        simp only [List.getElem?_toArray, List.getElem?_cons_zero, List.getElem?_cons_succ] at r0 r1
        have hs3 : NB < w3.heap.size := hU3.node.lt
        have HU4 := Lib.hid (hU3.stay ((Below.refl _ w3).alloc (Nat.le_refl _) (.cells #[.int .i64 id.1, .int .i64 id.2] 27)))
        have HS4 := Lib.hid (show NB + 1 ≤ (w3.alloc (.cells #[.int .i64 id.1, .int .i64 id.2] 27)).heap.size by simp; omega)
        clear hb3 hU3 hs3
        go_wp2_with (at_builtin; refine wpList_append_C _ rfl (.tmp 21) (.tmp 23) 91 91 rfl 27 i0 (.agg #[.int .i64 0, .int .i64 0]) 2 Try.underlying91 HI.out HZ0.out HZ1.out rfl (by decide) (NB + 1) _ out.length (scs out) rfl HU4.out.own (.slice (some ⟨w3.heap.size, 0, none⟩) 1 1) rfl 1 (sc id) ?c1 ?c3 ?c4 ?c5 ?_)
        case c1 => exact Src.st id (Blk.new _ _ _)
        case c3 => unfold maxLen; omega
        case c4 => rw [HZ2.out]; omega
        case c5 => exact HS4.out
        intro v' w6 hown hgrow hat
        have hU6 := HU4.out.grew hBN hgrow (OwnS.snoc hown)
        obtain ⟨y, hy⟩ : ∃ y, y = findN id xs := ⟨_, rfl⟩
        rw [← hy] at hU6
        have HYy := Lib.hid hy
        obtain ⟨p0, p1, p2, p3, p4, p5, p6⟩ := blk7 hU6.node
        have u0 := hU6.blk.cell 0
        have u1 := hU6.blk.cell 1
        simp only [List.getElem?_toArray, List.getElem?_cons_zero, List.getElem?_cons_succ] at u0 u1
        have v0 := hU6.blk.frozen 0
        have v1 := hU6.blk.frozen 1
        have hU7 := hU6.par hBN y.par
        have z0 := hU7.blk.cell 0
        have z1 := hU7.blk.cell 1
        simp only [List.getElem?_toArray, List.getElem?_cons_zero, List.getElem?_cons_succ] at z0 z1
        have hfd := rfind_any y.par A n c xs _ (HX.out.below hU7.below)
        obtain ⟨z, hz⟩ : ∃ z, z = findN y.par xs := ⟨_, rfl⟩
        rw [← hz] at hfd
        unfold sv nv at hfd
        have HFd2 := Lib.hid hfd
        have HZz := Lib.hid hz
        have HU7 := Lib.hid hU7
        obtain ⟨A5, c5, rfl⟩ := OwnC.isSlice hU6.own
        clear hown hgrow hat hU6 hU7 hfd hz hy
        go_wp2_with fail
        refine HFd2.out.mono ?_
        rintro e w8 ⟨rfl, hb8⟩
        have hU8 := HU7.out.stay hb8
        obtain ⟨g0, g1, g2, g3, g4, g5, g6⟩ := blk7 hU8.node
        have f0 := hU8.node.frozen 0
        have f1 := hU8.node.frozen 1
        have f2 := hU8.node.frozen 2
        have f3 := hU8.node.frozen 3
        have f4 := hU8.node.frozen 4
        have f5 := hU8.node.frozen 5
        have f6 := hU8.node.frozen 6
        have hU9 := hU8.turn hBN z
        unfold put7 at hU9
        have HU9 := Lib.hid hU9
        clear hb8 hU8 hU9
        go_wp2_with fail
        have hLL := HLL.out
        rw [show (out ++ [id]).length = out.length + 1 from by simp] at HU9
        have hfin : chainG xs f (out ++ [id]) y.par = chainN xs s := by rw [HYy.out]; exact HR.out
        exact ⟨⟨f, out ++ [id], y.par, by rw [← HZz.out]; exact HU9.out, rfl, by simp; omega, by omega, fun j hj => by
          rcases List.mem_append.1 hj with h | h
          · exact HAll.out j h
          · rw [List.mem_singleton.1 h]; exact HHh.out, hfin⟩, by simp [lenV]; omega⟩
end Go.Proofs.Ytaglomhmnoldlaa
/-! slices.Clone on nodes. -/
namespace Go.Proofs.Ytaglomhmnoldlaa
open Go.RowKit
attribute [local go_sem] bs_size bs_getElem bs_list bs_append

theorem ncs_one (xs : List Nd) : ∀ u ∈ ncs xs, u.oneCell' = true := by
  intro u hu
  obtain ⟨x, _, h⟩ := List.mem_flatMap.1 hu
  exact nc_one x u h
/-- a list of nodes handed to append -/
theorem Src.nds {w : World} {A : Option Addr} {n c : Nat} {xs : List Nd} (h : Nds w A n c xs) : Src Try.prog 7 32 (.slice A n c) n (ncs xs) w := by
  have hn := h.len
  cases hx : xs with
  | nil =>
    rw [hx] at hn
    obtain rfl : n = 0 := by simpa using hn.symm
    cases A with
    | none => exact Src.ofNil w Try.underlying32 c
    | some a => exact Src.ofSlice w Try.underlying32 a 0 c [] rfl (fun j u hu => by simp at hu) (fun u hu => by cases hu)
  | cons x0 r =>
    rw [← hx]
    have h0 : 0 < xs.length := by rw [hx]; simp
    obtain ⟨b, off, cs, rfl, _⟩ := h.4 0 h0
    refine Src.ofSlice w Try.underlying32 ⟨b, off, none⟩ n c (ncs xs) (by rw [ncs_len, hn]) (fun j u hu => ?_) (ncs_one xs)
    have hadd : (Addr.mk b off none).add j = ⟨b, off + j, none⟩ := by unfold Addr.add; split <;> simp_all
    rw [hadd]
    have hj : j < xs.length * 7 := by
      rcases Nat.lt_or_ge j (xs.length * 7) with h | h
      · exact h
      · rw [List.getElem?_eq_none (by rw [ncs_len]; exact h)] at hu; cases hu
    have hk : j / 7 < xs.length := by omega
    obtain ⟨b2, off2, cs2, e2, _, _, ⟨rfl, _⟩, hc⟩ := h.4 (j / 7) hk
    cases e2
    have hu2 : (nc xs[j / 7])[j % 7]? = some u := by
      rw [← ncs_at xs (j / 7) (j % 7) hk (Nat.mod_lt _ (by decide)), show j / 7 * 7 + j % 7 = j by omega]
      exact hu
    have := hc _ u hu2
    rw [show off + j / 7 * 7 + j % 7 = off + j by omega] at this
    exact this

set_option maxRecDepth 100000 in
set_option maxHeartbeats 1600000 in
theorem clone_any (A : Option Addr) (n c : Nat) (xs : List Nd) (w : World) (hx : Nds w A n c xs) (hm : n ≤ 1000000) :
    Calls Try.prog 50 #[.slice A n c] w fun e w' => ∃ v, e = .returned v ∧ Own w' w.heap.size v xs ∧ Below w.heap.size w w' := by
  obtain ⟨i0, hi0, hz0, hz1, hz2⟩ := info_parts info37
  have hn := hx.len
  cases A with
  | none =>
    have h0 : xs = [] := by
      cases hxs : xs with
      | nil => rfl
      | cons x r =>
        obtain ⟨b, off, cs, e, _⟩ := hx.4 0 (by rw [hxs]; simp)
        cases e
    subst h0
    clear hx hi0 hz0 hz1 hz2
    have he := fun w => Lib.run_eql_slice_nil (P := Try.prog) w 32 38 none n c 0 0 Try.underlying32
    go_enter Try.func50, Try.ntmps50
    go_wp2_with fail
    go_ret
    exact ⟨_, rfl, OwnC.nil_ _ _ _, Below.refl _ _⟩
  | some a =>
    have hb1 : Below w.heap.size w (w.alloc (.cells #[] 38)) := (Below.refl _ w).alloc (Nat.le_refl _) _
    have hO : OwnC (w.alloc (.cells #[] 38)) w.heap.size 7 (.slice (some ⟨w.heap.size, 0, none⟩) 0 0) 0 [] :=
      ⟨rfl, .inr ⟨w.heap.size, 0, rfl, Nat.le_refl _, by simp, Nat.le_refl _, by decide, fun j hj => by omega, fun j hj => by omega, fun j u hu => by simp at hu⟩⟩
    have hS := Src.nds (hx.below hb1)
    have HB := Lib.hid hb1
    have HO := Lib.hid hO
    have HS := Lib.hid hS
    have HI := Lib.hid hi0
    have HZ0 := Lib.hid hz0
    have HZ1 := Lib.hid hz1
    have HZ2 := Lib.hid hz2
    clear hx hb1 hO hS hi0 hz0 hz1 hz2
    have he := fun w => Lib.run_eql_slice_nil (P := Try.prog) w 32 38 (some a) n c 0 0 Try.underlying32
    go_enter Try.func50, Try.ntmps50
    go_wp2_with (at_builtin; refine wpList_append_C _ rfl (.tmp 5) (.tmp 6) 32 32 rfl 38 i0 (.agg #[.int .i64 0, .int .i64 0, .bool false, .int .i64 0, .int .i64 0, .string ⟨#[]⟩, .string ⟨#[]⟩]) 7 Try.underlying32 HI.out HZ0.out HZ1.out rfl (by decide) w.heap.size _ 0 [] rfl HO.out (.slice (some a) n c) rfl n (ncs xs) ?c1 ?c3 ?c4 ?c5 ?_)
    case c1 => exact HS.out
    case c3 => unfold maxLen; omega
    case c4 => rw [HZ2.out]; omega
    case c5 => simp
    intro v' w3 hown hgrow hat
    have HOn := Lib.hid (show Own w3 w.heap.size v' xs by unfold Own; rw [hn]; simpa using hown)
    have HBn := Lib.hid (gb_own HB.out (Nat.le_refl _) (by simp) HO.out hgrow)
    clear hown hgrow hat
    go_wp2_with fail
    go_ret
    exact ⟨_, rfl, HOn.out, HBn.out⟩
end Go.Proofs.Ytaglomhmnoldlaa
/-! Operations as plain values; mk; the closure of grown and its IndexFunc. -/
namespace Go.Proofs.Ytaglomhmnoldlaa
open Go.RowKit
attribute [local go_sem] bs_size bs_getElem bs_list bs_append

structure TOp where
  st : St
  seq : Int
  kind : Int
  node : St
  dir : Bool
  par : St
  nm : List UInt8
  mf : List UInt8
deriving DecidableEq
instance : Inhabited TOp := ⟨⟨(0, 0), 0, 0, (0, 0), false, (0, 0), [], []⟩⟩
def oc (x : TOp) : List Value := [.int .i64 x.st.1, .int .i64 x.st.2, .int .i64 x.seq, .int .i64 x.kind, .int .i64 x.node.1, .int .i64 x.node.2, .bool x.dir, .int .i64 x.par.1, .int .i64 x.par.2, .string (bs x.nm), .string (bs x.mf)]
def ov (x : TOp) : Value := .agg #[.int .i64 x.st.1, .int .i64 x.st.2, .int .i64 x.seq, .int .i64 x.kind, .int .i64 x.node.1, .int .i64 x.node.2, .bool x.dir, .int .i64 x.par.1, .int .i64 x.par.2, .string (bs x.nm), .string (bs x.mf)]

set_option maxRecDepth 100000 in
set_option maxHeartbeats 1600000 in
/-- the closure of grown: stands x behind the node that lies in block q? -/
theorem clo_less (q : Nat) (y x : Nd) (w : World) (hq : Blk w q 38 (nc y).toArray) :
    Calls Try.prog 65 #[nv x, .pointer (some ⟨q, 0, none⟩)] w fun e w' => e = .returned (.bool (lessS y.id x.id)) ∧ Below w.heap.size w w' := by
  have hb : Below w.heap.size w (w.alloc (.cells (nc x).toArray 38)) := (Below.refl _ w).alloc (Nat.le_refl _) _
  have hq1 := hq.alloc (.cells (nc x).toArray 38)
  have hB := Blk.new w 38 (nc x).toArray
  obtain ⟨c0, c1, _⟩ := blk7 hq1
  obtain ⟨e0, e1, _⟩ := blk7 hB
  have hl := less_any y.id x.id (w.alloc (.cells (nc x).toArray 38))
  unfold sv nc at hl
  unfold nc at c0 c1 e0 e1 hb
  have HL := Lib.hid hl
  have HB := Lib.hid hb
  clear hb hB hq hq1 hl
  unfold nv
  go_enter Try.func65, Try.ntmps65
  go_wp2_with fail
  refine HL.out.mono ?_
  rintro e w2 ⟨rfl, hb2⟩
  have hb3 := HB.out.trans (hb2.mono HB.out.size)
  go_wp2_with fail
  go_ret
  exact ⟨rfl, hb3⟩
end Go.Proofs.Ytaglomhmnoldlaa
/-! Where a node is put: IndexFunc with the closure of grown. -/
namespace Go.Proofs.Ytaglomhmnoldlaa
open Go.RowKit
attribute [local go_sem] bs_size bs_getElem bs_list bs_append

set_option maxRecDepth 100000 in
set_option maxHeartbeats 1600000 in
theorem index_less (q : Nat) (y : Nd) (A : Option Addr) (n c : Nat) (xs : List Nd) (w : World) (hx : Nds w A n c xs) (hq : Blk w q 38 (nc y).toArray) :
    Calls Try.prog 62 #[.slice A n c, .func (.func 65) #[] #[.pointer (some ⟨q, 0, none⟩)]] w fun e w' => e = .returned (.int .i64 (firstI (fun z => lessS y.id z.id) xs)) ∧ Below w.heap.size w w' := by
  have hql := hq.lt
  have hn := hx.len
  have hmx := hx.max
  have hle := hx.le
  have HX := Lib.hid hx
  have HQ := Lib.hid hq
  clear hx hq
  go_enter Try.func62, Try.ntmps62
  go_wp2_with fail
  go_loopw [8] (fun i wr => ∃ k : Nat, k ≤ xs.length ∧ i = .int .i64 k ∧ Below w.heap.size w wr ∧ ∀ j (hj : j < xs.length), j < k → lessS y.id xs[j].id = false) (fun i _ => xs.length - (intOf i).toNat)
  case atStart => exact ⟨0, by omega, rfl, Below.refl _ _, fun j _ h => by omega⟩
  case round =>
    obtain ⟨k, hk, rfl, hb, hall⟩ := hrel
    rcases Nat.lt_or_ge k xs.length with hlt | hge
    · obtain ⟨b, off, rfl, hbl, c0, c1, c2, c3, c4, c5, c6, _⟩ := Nds.at_ (HX.out.below hb) hlt
      have hq' := HQ.out.below hb hql
      have HA := Lib.hid hall
      have hcl := clo_less q y xs[k] wr hq'
      obtain ⟨x, hx⟩ : ∃ x, xs[k] = x := ⟨_, rfl⟩
      rw [hx] at c0 c1 c2 c3 c4 c5 c6 hcl
      unfold nv at hcl
      have HCl := Lib.hid hcl
      have HX2 := Lib.hid hx
      have HB := Lib.hid hb
      have hki : (k : Int) < (n : Int) := by omega
      clear hall hx hb hq' hcl
      go_wp2_with fail
      refine HCl.out.mono ?_
      rintro e w2 ⟨rfl, hb2⟩
      have hb3 := HB.out.trans (hb2.mono HB.out.size)
      cases hc : lessS y.id x.id with
      | true =>
        go_wp2_with fail
        have hfin : firstI (fun z => lessS y.id z.id) xs = k := firstI_at hlt (by show lessS y.id xs[k].id = true; rw [HX2.out]; exact hc) HA.out
        go_ret
        exact ⟨by rw [hfin]; rfl, hb3⟩
      | false =>
        go_wp2_with fail
        exact ⟨⟨k + 1, by omega, by go_num, hb3, fun j hj hjk => by
          by_cases e : j = k
          · subst e; rw [HX2.out]; exact hc
          · exact HA.out j hj (by omega)⟩, by simp [intOf]; omega⟩
    · have hkn : ¬ (k : Int) < (n : Int) := by omega
      have hfin : firstI (fun z => lessS y.id z.id) xs = -1 := firstI_none fun j hj => hall j hj (by omega)
      clear hall
      go_wp2_with fail
      go_ret
      exact ⟨rfl, hb⟩

end Go.Proofs.Ytaglomhmnoldlaa
/-! Lists of operations; few. -/
namespace Go.Proofs.Ytaglomhmnoldlaa
open Go.RowKit
attribute [local go_sem] bs_size bs_getElem bs_list bs_append

def OpC (cs : List Value) (x : TOp) : Prop := cs = oc x ∧ x.nm.length ≤ 9223372036854775807 ∧ x.mf.length ≤ 9223372036854775807
/-- a list of operations -/
abbrev Ops (w : World) (A : Option Addr) (n c : Nat) (xs : List TOp) : Prop := Sl w 11 OpC A n c xs
theorem Ops.at_ {w : World} {A : Option Addr} {n c k : Nat} {xs : List TOp} (h : Ops w A n c xs) (hk : k < xs.length) :
    ∃ b off, A = some ⟨b, off, none⟩ ∧ b < w.heap.size ∧ w.cell? ⟨b, off + k * 11, none⟩ = some (.int .i64 xs[k].st.1) ∧ w.cell? ⟨b, off + k * 11 + 1, none⟩ = some (.int .i64 xs[k].st.2) ∧ w.cell? ⟨b, off + k * 11 + 2, none⟩ = some (.int .i64 xs[k].seq) ∧ w.cell? ⟨b, off + k * 11 + 3, none⟩ = some (.int .i64 xs[k].kind) ∧ w.cell? ⟨b, off + k * 11 + 4, none⟩ = some (.int .i64 xs[k].node.1) ∧ w.cell? ⟨b, off + k * 11 + 5, none⟩ = some (.int .i64 xs[k].node.2) ∧ w.cell? ⟨b, off + k * 11 + 6, none⟩ = some (.bool xs[k].dir) ∧ w.cell? ⟨b, off + k * 11 + 7, none⟩ = some (.int .i64 xs[k].par.1) ∧ w.cell? ⟨b, off + k * 11 + 8, none⟩ = some (.int .i64 xs[k].par.2) ∧ w.cell? ⟨b, off + k * 11 + 9, none⟩ = some (.string (bs xs[k].nm)) ∧ w.cell? ⟨b, off + k * 11 + 10, none⟩ = some (.string (bs xs[k].mf)) ∧ xs[k].nm.length ≤ 9223372036854775807 ∧ xs[k].mf.length ≤ 9223372036854775807 := by
  obtain ⟨b, off, cs, e, hlt, hl, ⟨rfl, hr1, hr2⟩, hc⟩ := h.4 k hk
  exact ⟨b, off, e, hlt, by have := hc 0 _ rfl; simpa using this, hc 1 _ rfl, hc 2 _ rfl, hc 3 _ rfl, hc 4 _ rfl, hc 5 _ rfl, hc 6 _ rfl, hc 7 _ rfl, hc 8 _ rfl, hc 9 _ rfl, hc 10 _ rfl, hr1, hr2⟩

end Go.Proofs.Ytaglomhmnoldlaa
/-! A tree behind operations, in plain words; the chapter's example. -/
namespace Go.Proofs.Ytaglomhmnoldlaa

/-- a node behind an operation that it takes -/
def turnN (xs : List Nd) (x : TOp) (y : Nd) : Option Nd :=
  if x.kind = 2 then (if takesB x.par xs && !decide (x.node ∈ chainN xs x.par) then some { y with par := x.par, nm := x.nm } else none)
  else if x.kind = 3 then (if y.dir then none else some { y with mf := x.mf })
  else if x.kind = 4 then some { y with par := (0, 1) }
  else none
/-- where a node is put -/
def atN (xs : List Nd) (s : St) : Nat := (xs.findIdx? fun z => lessS s z.id).getD xs.length
def growN (xs : List Nd) (y : Nd) : List Nd := xs.take (atN xs y.id) ++ y :: xs.drop (atN xs y.id)
/-- a tree behind an operation -/
def doN (xs : List Nd) (x : TOp) : List Nd :=
  match xs.findIdx? (isId x.node) with
  | none => if x.kind = 1 then growN xs ⟨x.node, x.dir, if takesB x.par xs then x.par else (0, 1), x.nm, x.mf⟩ else xs
  | some i => if x.kind = 1 then xs else match turnN xs x (xs.getD i nd0) with
    | some y => xs.set i y
    | none => xs
def foldN (l : List TOp) : List Nd := l.foldl doN []

theorem atN_first (xs : List Nd) (s : St) : (atN xs s : Int) = if firstI (fun z => lessS s z.id) xs < 0 then (xs.length : Int) else firstI (fun z => lessS s z.id) xs := by
  unfold atN firstI
  cases xs.findIdx? (fun z => lessS s z.id) with
  | none => rfl
  | some k => simp; omega
def mkN (a p : Int) : TOp := ⟨(a, 0), 0, 1, (a, 0), true, (p, 0), [110], []⟩
theorem example_fold : foldN [mkN 1 0, mkN 2 1, ⟨(0, 0), 0, 2, (1, 0), false, (2, 0), [109], []⟩] = [⟨(1, 0), true, (0, 0), [110], []⟩, ⟨(2, 0), true, (1, 0), [110], []⟩] := by decide
theorem example_chain : chainN (doN [⟨(1, 0), true, (0, 0), [110], []⟩, ⟨(2, 0), true, (1, 0), [110], []⟩] ⟨(0, 0), 0, 4, (1, 0), false, (0, 0), [], []⟩) (2, 0) = [(2, 0), (1, 0), (0, 1)] := by decide
end Go.Proofs.Ytaglomhmnoldlaa
