/- The pieces of bytes: slices.Chunk's iterator. -/
import Derived.RangeFuncNested
import Derived.RangeFuncBound
import Derived.RangeFuncCalls
import Derived.RangeFuncLeaves
import Derived.RangeFuncBox
import Derived.Shelf.Abstract
import Derived.Shelf.RegionOpen
import Derived.WalkKit
import Derived.OwnWalkIn
import Derived.TacticsInMore
import Derived.LoopNIn
import Derived.LoopIn
import Derived.Sort.QuietIn
import Derived.Maps.AppendAt
import Derived.Test.YtnfbakldpjmbnaaRows
import Derived.Test.YtnfbakldpjmbnaaBs
import Derived.Test.YtnfbakldpjmbnaaOwnC
namespace Go.Proofs.Ytnfbakldpjmbnaa
open Go.RowKit Go.Shelf
attribute [local go_sem] Oper.semAt_some

/-- how many pieces bytes have -/
def pieces (n : Nat) : Nat := (n + 255) / 256
theorem pieces_lt {n k : Nat} : k < pieces n ↔ 256 * k < n := by unfold pieces; omega
/-- the slice of a piece -/
def pcv (g n k : Nat) : Value := if 256 * k < n then .slice (some ⟨g, 256 * k, none⟩) (min 256 (n - 256 * k)) (min 256 (n - 256 * k)) else .slice none 0 0
/-- two blocks as they were -/
def Kept (B1 B2 : Nat) (W W' : World) : Prop := W'.heap[B1]? = W.heap[B1]? ∧ W'.heap[B2]? = W.heap[B2]?
theorem Kept.refl (B1 B2 : Nat) (W : World) : Kept B1 B2 W W := ⟨rfl, rfl⟩
theorem Kept.trans {B1 B2 : Nat} {A B C : World} (h : Kept B1 B2 A B) (k : Kept B1 B2 B C) : Kept B1 B2 A C := ⟨k.1.trans h.1, k.2.trans h.2⟩
theorem Kept.book {B1 B2 : Nat} {w : World} (h1 : B1 < w.heap.size) (h2 : B2 < w.heap.size) (W : World) (l : Nat) (o o' : Obj) (hl : w.heap.size ≤ l) (_ : W.heap[l]? = some o) (_ : o.isCells = false) (_ : o.isWalk = false) : Kept B1 B2 W (W.putObj l o') :=
  ⟨World.putObj_heap_other (by omega), World.putObj_heap_other (by omega)⟩
theorem Kept.cell1 {B1 B2 : Nat} {W W' : World} (h : Kept B1 B2 W W') : W'.cell? ⟨B1, 0, none⟩ = W.cell? ⟨B1, 0, none⟩ := World.cell?_of_block (a := ⟨B1, 0, none⟩) h.1
theorem Kept.cell2 {B1 B2 : Nat} {W W' : World} (h : Kept B1 B2 W W') : W'.cell? ⟨B2, 0, none⟩ = W.cell? ⟨B2, 0, none⟩ := World.cell?_of_block (a := ⟨B2, 0, none⟩) h.2

set_option maxRecDepth 100000 in
set_option maxHeartbeats 2000000 in
theorem chunk1_in (F : Fence) (n : Nat) (h33 : F.fn 43) (hro : F.round = none) (hn : 1 ≤ n) (l Bs Bn g len cap : Nat) (A : Option Addr) (hA : 0 < len → A = some ⟨g, 0, none⟩) (hle : len ≤ cap) (hlen : len ≤ 1000000) (hcap : cap ≤ 9223372036854775807)
    (J Jx : List Nat → World → Prop) (hJ : ∀ s (W : World) q, J s W → J s (W.drewN q))
    (hY : ∀ pre x W, J pre W → pre.length < pieces len → YieldAt F (n - 1) Try.prog l #[pcv g len x] W fun e W' =>
      (e = .returned (.bool true) ∧ J (pre ++ [x]) W' ∧ Kept Bs Bn W W') ∨ (e = .returned (.bool false) ∧ Jx (pre ++ [x]) W'))
    (W : World) (hBs : W.cell? ⟨Bs, 0, none⟩ = some (.slice A len cap)) (hBn : W.cell? ⟨Bn, 0, none⟩ = some (.int .i64 256)) (h0 : J [] W) :
    CallsIn F n Try.prog 43 #[.func (.yield l) #[] #[], .pointer (some ⟨Bs, 0, none⟩), .pointer (some ⟨Bn, 0, none⟩)] W fun e W' => (∃ v, e = .returned v) ∧
      ((∃ ys, ys = List.range (pieces len) ∧ J ys W') ∨ (∃ pre : List Nat, True ∧ Jx pre W')) := by
  refine callsIn_of_wp Try.func43 rfl h33 ?_ hro
  simp only [Try.ntmps43, List.size_toArray, List.length_cons, List.length_nil, Nat.reduceAdd, Nat.reduceSub, Array.replicate_succ, Array.replicate_zero, List.push_toArray, List.append_toArray, List.nil_append, List.cons_append]
  gi_wp2
  gi_loopw [4] (fun i wr => ∃ k : Nat, k ≤ pieces len ∧ i = .int .i64 (256 * k : Nat) ∧ J (List.range k) wr ∧ Kept Bs Bn W wr)
    (fun i _ => len - (intOf i).toNat)
  case atStart => exact ⟨0, Nat.zero_le _, rfl, h0, Kept.refl _ _ _⟩
  case round =>
    obtain ⟨k, hk, rfl, hJs, hK⟩ := hrel
    have c1 := hK.cell1.trans hBs
    have c2 := hK.cell2.trans hBn
    by_cases hlt : 256 * k < len
    · obtain rfl := hA (by omega)
      have hi : ((256 * k : Nat) : Int) < (len : Int) := by omega
      have hn1 : (0 : Int) ≤ 256 * (k : Int) := by omega
      have hn2 : 256 * (k : Int) < (len : Int) := by omega
      have hn3 : (256 * (k : Int)).toNat = 256 * k := by omega
      gi_wp2
      refine wpIn_region_quiet_lit hro (by kernel_rfl) (by kernel_rfl) ?_
      repeat (gi_big_quiet_step (fail))
      refine wpQuietIn_nil ?_
      intro _ hw'
      obtain ⟨nq, hw''⟩ := hw'
      subst hw''
      obtain ⟨m, hm⟩ : ∃ m, m = min 256 (len - 256 * k) := ⟨_, rfl⟩
      obtain ⟨fn, tmps, assign, body, hy, hR⟩ := hY _ k (wr.drewN nq) (hJ _ _ _ hJs) (by rw [List.length_range]; exact pieces_lt.2 hlt)
      unfold pcv at hy
      rw [if_pos hlt, ← hm] at hy
      have hmi : (if ((len - 256 * k : Nat) : Int) < 256 then ((len - 256 * k : Nat) : Int) else 256) = (m : Int) := by split <;> omega
      rw [hmi]
      have hm1 : 256 * k + m ≤ len := by omega
      have hm0 : 0 < m := by omega
      have hm256 : m ≤ 256 := by omega
      have c1 : (wr.drewN nq).cell? ⟨Bs, 0, none⟩ = some (.slice (some ⟨g, 0, none⟩) len cap) := c1
      have c2 : (wr.drewN nq).cell? ⟨Bn, 0, none⟩ = some (.int .i64 256) := c2
      have HM := Lib.hid hm
      have HJ := Lib.hid hJs
      have HK := Lib.hid (show Kept Bs Bn W (wr.drewN nq) from hK)
      clear hm hmi hK hJs
      obtain ⟨w2, hw2⟩ : ∃ w2, w2 = wr.drewN nq := ⟨_, rfl⟩
      rw [← hw2] at hy hR c1 c2 HK ⊢
      clear hw2
      have hs1 : (0 : Int) ≤ 256 * (k : Int) + (m : Int) := by omega
      have hs2 : 256 * (k : Int) + (m : Int) ≤ (cap : Int) := by omega
      have hs3 : (256 * (k : Int) + (m : Int)).toNat = 256 * k + m := by omega
      have hs4 : 256 * k + m - 256 * k = m := by omega
      gi_wp2
      refine hR.mono ?_
      rintro e W3 (⟨rfl, hJ3, hk3⟩ | ⟨rfl, hJx3⟩)
      · have c3 := hk3.cell2.trans c2
        have HK3 := Lib.hid (HK.out.trans hk3)
        have HJ3 := Lib.hid hJ3
        clear hJ3 hk3
        gi_wp2
        go_roundw
        case rel => exact ⟨k + 1, by have := pieces_lt.2 hlt; omega, by go_num, by rw [List.range_succ]; exact HJ3.out, HK3.out⟩
        case measure => simp [intOf]; omega
      · gi_wp2
        refine bodyPost_ret (results_none rfl _ _ _) rfl ?_
        exact ⟨⟨_, rfl⟩, .inr ⟨_, trivial, hJx3⟩⟩
    · obtain rfl : k = pieces len := by have := mt pieces_lt.1 hlt; omega
      have hi : ¬ ((256 * pieces len : Nat) : Int) < (len : Int) := by omega
      gi_wp2
      go_end0
      exact ⟨⟨_, rfl⟩, .inl hJs⟩

theorem chunk_stops (F : Fence) (n : Nat) (h33 : F.fn 43) (hro : F.round = none) (hn : 1 ≤ n) (Bs Bn g len cap : Nat) (A : Option Addr) (hA : 0 < len → A = some ⟨g, 0, none⟩) (hle : len ≤ cap) (hlen : len ≤ 1000000) (hcap : cap ≤ 9223372036854775807) (w : World)
    (h1 : Bs < w.heap.size) (h2 : Bn < w.heap.size) (hBs : w.cell? ⟨Bs, 0, none⟩ = some (.slice A len cap)) (hBn : w.cell? ⟨Bn, 0, none⟩ = some (.int .i64 256)) :
    SeqStopsK F n Try.prog 43 #[.pointer (some ⟨Bs, 0, none⟩), .pointer (some ⟨Bn, 0, none⟩)] (fun k : Nat => #[pcv g len k]) (Kept Bs Bn) (fun ys => ys = List.range (pieces len)) (fun _ => True) (pieces len) w := fun l J Jx W hW hJ _ hY h0 =>
  chunk1_in F n h33 hro hn l Bs Bn g len cap A hA hle hlen hcap J Jx (fun s W q hs => hJ s W _ none hs (gb_drewN (gb_refl _ _) q) (fun r e => by cases e)) hY W ((hW.cell (p := ⟨Bs, 0, none⟩) h1).trans hBs) ((hW.cell (p := ⟨Bn, 0, none⟩) h2).trans hBn) h0

set_option maxRecDepth 100000 in
set_option maxHeartbeats 1000000 in
theorem chunkmk_in (F : Fence) (n : Nat) (h24 : F.fn 37) (hro : F.round = none) (A : Option Addr) (len cap : Nat) (w : World) :
    CallsIn F n Try.prog 37 #[.slice A len cap, .int .i64 256] w fun e w' => e = .returned (.func (.func 43) #[] #[.pointer (some ⟨w.heap.size, 0, none⟩), .pointer (some ⟨w.heap.size + 1, 0, none⟩)]) ∧ w' = (w.alloc (.cells #[.slice A len cap] 62)).alloc (.cells #[.int .i64 256] 3) := by
  refine callsIn_of_wp Try.func37 rfl h24 ?_ hro
  simp only [Try.ntmps37, List.size_toArray, List.length_cons, List.length_nil, Nat.reduceAdd, Nat.reduceSub, Array.replicate_succ, Array.replicate_zero, List.push_toArray, List.append_toArray, List.nil_append, List.cons_append]
  gi_wp2
  go_ret
  exact ⟨rfl, rfl⟩
end Go.Proofs.Ytnfbakldpjmbnaa
