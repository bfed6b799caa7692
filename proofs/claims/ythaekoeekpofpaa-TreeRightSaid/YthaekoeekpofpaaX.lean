/- The walks of TreeFind, TreeChildren. -/
import Derived.Test.YthaekoeekpofpaaW
namespace Go.Proofs.Ythaekoeekpofpaa
open Go.RowKit
attribute [local go_sem] bs_size bs_getElem bs_list bs_append

/-- a stamp in a block of its own, a list of nodes -/
structure AtS (B q : Nat) (w0 w : World) (s : St) (A : Option Addr) (n c : Nat) (xs : List Nd) : Prop where
  b1 : Blk w q 30 #[.int .i64 s.1, .int .i64 s.2]
  nds : Nds w A n c xs
  below : Below B w0 w
  h1 : B ≤ q
theorem AtS.size {B q : Nat} {w0 w : World} {s : St} {A : Option Addr} {n c : Nat} {xs : List Nd} (h : AtS B q w0 w s A n c xs) : B ≤ w.heap.size := Nat.le_of_lt (Nat.lt_of_le_of_lt h.h1 h.b1.lt)
theorem AtS.after {B q : Nat} {w0 w w' : World} {s : St} {A : Option Addr} {n c : Nat} {xs : List Nd} (h : AtS B q w0 w s A n c xs) (hb : Below w.heap.size w w') : AtS B q w0 w' s A n c xs :=
  ⟨h.b1.below hb h.b1.lt, h.nds.below hb, h.below.trans (hb.mono h.size), h.h1⟩
theorem AtS.alloc {B q : Nat} {w0 w : World} {s : St} {A : Option Addr} {n c : Nat} {xs : List Nd} (h : AtS B q w0 w s A n c xs) (o : Obj) : AtS B q w0 (w.alloc o) s A n c xs := h.after ((Below.refl _ _).alloc (Nat.le_refl _) o)
theorem AtS.drew {B q : Nat} {w0 w : World} {s : St} {A : Option Addr} {n c : Nat} {xs : List Nd} (h : AtS B q w0 w s A n c xs) : AtS B q w0 w.drew s A n c xs := h.after (Below.refl _ _).drew
theorem AtS.start (w : World) (s : St) (A : Option Addr) (n c : Nat) (xs : List Nd) (hx : Nds w A n c xs) : AtS w.heap.size w.heap.size w (w.alloc (.cells #[.int .i64 s.1, .int .i64 s.2] 30)) s A n c xs :=
  ⟨Blk.new _ _ _, hx.below ((Below.refl _ _).alloc (Nat.le_refl _) _), (Below.refl _ _).alloc (Nat.le_refl _) _, Nat.le_refl _⟩
theorem AtS.cells {B q : Nat} {w0 w : World} {s : St} {A : Option Addr} {n c : Nat} {xs : List Nd} (h : AtS B q w0 w s A n c xs) : w.cell? ⟨q, 0, none⟩ = some (.int .i64 s.1) ∧ w.cell? ⟨q, 1, none⟩ = some (.int .i64 s.2) := ⟨h.b1.cell 0, h.b1.cell 1⟩
/-- awake at the end -/
theorem AtS.awake {B q : Nat} {w0 w : World} {s : St} {A : Option Addr} {n c : Nat} {xs : List Nd} (h : AtS B q w0 w s A n c xs) : Calls Try.prog 15 #[] w fun e w' => e = .returned (.bool true) ∧ Below B w0 w' :=
  (awake_any w).mono fun _ _ hq => ⟨hq.1, h.below.trans (hq.2.mono h.size)⟩

set_option maxRecDepth 100000 in
set_option maxHeartbeats 3200000 in
theorem law_find (A : Option Addr) (n c : Nat) (xs : List Nd) (s : St) (w : World) (hx : Nds w A n c xs) :
    Calls Try.prog 6 #[.slice A n c, sv s] w fun e w' => e = .returned (.bool true) ∧ Below w.heap.size w w' := by
  have hA := AtS.start w s A n c xs hx
  obtain ⟨w1, hw1⟩ : ∃ w1, w1 = w.alloc (.cells #[.int .i64 s.1, .int .i64 s.2] 30) := ⟨_, rfl⟩
  obtain ⟨q, hq⟩ : ∃ q, q = w.heap.size := ⟨_, rfl⟩
  have hA : AtS w.heap.size q w w1 s A n c xs := by rw [hq, hw1]; exact hA
  have HW := Lib.hid hw1
  have HQ := Lib.hid hq
  have HA := Lib.hid hA
  clear hw1 hq hA hx
  unfold sv
  have HFd := Lib.hid (fun (w' : World) (h : Nds w' A n c xs) => find_any s A n c xs w' h)
  have HRf := Lib.hid (fun (w' : World) (h : Nds w' A n c xs) => rfind_any s A n c xs w' h)
  obtain ⟨y, hy⟩ : ∃ y, y = findN s xs := ⟨_, rfl⟩
  rw [← hy] at HFd HRf
  have he := run_eql_nd y
  unfold sv nv at HFd HRf
  unfold nv at he
  clear hy
  go_enter Try.func6, Try.ntmps6
  go_upto_region 1 with (fail)
  rw [← HW.out, ← HQ.out]
  go_wp2_with fail
  refine (some_any A n c xs w1 HA.out.nds).mono ?_
  rintro e w2 ⟨⟨r, rfl, _⟩, hb2⟩
  have HA2 := Lib.hid (HA.out.after hb2)
  obtain ⟨q0, q1⟩ := HA2.out.cells
  clear hb2
  cases r with
  | false =>
    go_wp2_with fail
    refine (HA2.out.awake).mono ?_
    rintro e w3 ⟨rfl, hb3⟩
    have HB3 := Lib.hid hb3
    clear hb3
    go_wp2_with fail
    go_ret
    exact ⟨rfl, HB3.out⟩
  | true =>
    go_wp2_with fail
    refine (HFd.out w2 HA2.out.nds).mono ?_
    rintro e w3 ⟨rfl, hb3⟩
    have hA3 := (HA2.out.after hb3).alloc (.cells (nc y).toArray 37)
    have hN1 := Blk.new w3 37 (nc y).toArray
    obtain ⟨w4, hw4⟩ : ∃ w4, w4 = w3.alloc (.cells #[.int .i64 y.id.1, .int .i64 y.id.2, .bool y.dir, .int .i64 y.par.1, .int .i64 y.par.2, .string (bs y.nm), .string (bs y.mf)] 37) := ⟨_, rfl⟩
    obtain ⟨p1, hp1⟩ : ∃ p1, p1 = w3.heap.size := ⟨_, rfl⟩
    have HA4 : RowKit.Hid (AtS w.heap.size q w w4 s A n c xs) := by rw [hw4]; exact hA3
    have HN1 : RowKit.Hid (Blk w4 p1 37 (nc y).toArray) := by rw [hw4, hp1]; exact hN1
    have HW4 := Lib.hid hw4
    have HP1 := Lib.hid hp1
    clear hb3 hA3 hN1 hw4 hp1 q0 q1
    obtain ⟨q0, q1⟩ := HA4.out.cells
    go_upto_region 4 with (fail)
    rw [← HW4.out, ← HP1.out]
    go_wp2_with fail
    refine (HRf.out w4 HA4.out.nds).mono ?_
    rintro e w5 ⟨rfl, hb5⟩
    have hA5 := (HA4.out.after hb5).alloc (.cells (nc y).toArray 37)
    have hN1 := (HN1.out.below hb5 HN1.out.lt).alloc (.cells (nc y).toArray 37)
    have hN2 := Blk.new w5 37 (nc y).toArray
    obtain ⟨w6, hw6⟩ : ∃ w6, w6 = w5.alloc (.cells #[.int .i64 y.id.1, .int .i64 y.id.2, .bool y.dir, .int .i64 y.par.1, .int .i64 y.par.2, .string (bs y.nm), .string (bs y.mf)] 37) := ⟨_, rfl⟩
    obtain ⟨p2, hp2⟩ : ∃ p2, p2 = w5.heap.size := ⟨_, rfl⟩
    have HA6 : RowKit.Hid (AtS w.heap.size q w w6 s A n c xs) := by rw [hw6]; exact hA5
    have hN1' : Blk w6 p1 37 (nc y).toArray := by rw [hw6]; exact hN1
    have hN2' : Blk w6 p2 37 (nc y).toArray := by rw [hw6, hp2]; exact hN2
    have HW6 := Lib.hid hw6
    have HP2 := Lib.hid hp2
    obtain ⟨c0, c1, c2, c3, c4, c5, c6⟩ := blk7 hN1'
    obtain ⟨d0, d1, d2, d3, d4, d5, d6⟩ := blk7 hN2'
    clear hb5 hA5 hN1 hN2 hN1' hN2' hw6 hp2 q0 q1
    go_upto_region 5 with (fail)
    rw [← HW6.out, ← HP2.out]
    go_wp2_with fail
    refine (HA6.out.awake).mono ?_
    rintro e w7 ⟨rfl, hb7⟩
    have HB7 := Lib.hid hb7
    clear hb7
    go_wp2_with fail
    go_ret
    exact ⟨by simp, HB7.out⟩
end Go.Proofs.Ythaekoeekpofpaa
