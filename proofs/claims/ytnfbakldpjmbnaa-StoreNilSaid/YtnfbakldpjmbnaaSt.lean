/- A store: New, Used, Put; the nil calls. -/
import Derived.Test.YtnfbakldpjmbnaaMp
import Derived.Test.YtnfbakldpjmbnaaKw
import Derived.Test.YtnfbakldpjmbnaaFs
import Derived.Test.YtnfbakldpjmbnaaQTail
import Derived.Laws.LoneSync
namespace Go.Proofs.Ytnfbakldpjmbnaa
open Go.RowKit Fm
attribute [local go_sem] bs_size bs_getElem bs_list bs_append

theorem make40 (w : World) : (Instr.makeMap 40 none).run Try.prog w = .ok (.map (some w.heap.size)) (w.alloc (.map #[] 0)) := by simp [go_sem, Instr.makeMap]
theorem make41 (w : World) : (Instr.makeMap 41 none).run Try.prog w = .ok (.map (some w.heap.size)) (w.alloc (.map #[] 0)) := by simp [go_sem, Instr.makeMap]

/-- a store in memory, of which nothing is kept -/
structure StI (B : Nat) (w : World) (d pb kb : Nat) (q u : Nat) (fs : Files) : Prop where
  blk : Blk w d 43 #[.int .i64 (q : Nat), .int .i64 (u : Nat), .map (some pb), .map (some kb)]
  fs : Fs w pb fs
  kept : w.heap[kb]? = some (.map #[] 0)
  ne : kb ≠ pb
  bd : B ≤ d
  bp : B ≤ pb
theorem StI.later {B d pb kb q u : Nat} {fs : Files} {w w' : World} (h : StI B w d pb kb q u fs) (hb : Below w.heap.size w w') : StI B w' d pb kb q u fs :=
  ⟨h.blk.below hb h.blk.lt, h.fs.below hb, (hb.block kb (by
    rcases Nat.lt_or_ge kb w.heap.size with hlt | hge
    · exact hlt
    · have := h.kept; rw [Array.getElem?_eq_none hge] at this; cases this)).trans h.kept, h.ne, h.bd, h.bp⟩

set_option maxHeartbeats 1000000 in
set_option maxRecDepth 100000 in
theorem new_any (n : Nat) (h1 : 1 ≤ n) (h2 : n ≤ 16777216) (w : World) :
    Calls Try.prog 19 #[.int .i64 (n : Nat)] w fun e w' => ∃ d pb kb, e = .returned (.tuple #[.pointer (some ⟨d, 0, none⟩), .int .i64 0]) ∧ StI w.heap.size w' d pb kb n 0 [] ∧ Below w.heap.size w w' := by
  have hm1 := make40 w
  have hm2 := make41 (w.alloc (.map #[] 0))
  have c1 : decide ((n : Int) < 1) = false := by simp; omega
  have c2 : decide ((16777216 : Int) < n) = false := by simp; omega
  go_enter Try.func19, Try.ntmps19
  go_wp2_with fail
  go_ret2
  refine ⟨w.heap.size + 2, w.heap.size, w.heap.size + 1, by simp, ⟨?_, ?_, ?_, by omega, by omega, by omega⟩, ?_⟩
  · have := Blk.new ((w.alloc (.map #[] 0)).alloc (.map #[] 0)) 43 #[.int .i64 (n : Nat), .int .i64 0, .map (some w.heap.size), .map (some (w.heap.size + 1))]
    rwa [show ((w.alloc (.map #[] 0)).alloc (.map #[] 0)).heap.size = w.heap.size + 2 from by simp] at this
  · exact (Fs.new w).alloc _ |>.alloc _
  · have := (Fs.new (w.alloc (.map #[] 0))).alloc (.cells #[.int .i64 (n : Nat), .int .i64 0, .map (some w.heap.size), .map (some (w.heap.size + 1))] 43)
    rw [show (w.alloc (.map #[] 0)).heap.size = w.heap.size + 1 from by simp] at this
    exact this
  · exact (((Below.refl _ w).alloc (Nat.le_refl _) _).alloc (by simp) _).alloc (by simp; omega) _

set_option maxHeartbeats 1000000 in
set_option maxRecDepth 100000 in
theorem load_any (a : Nat) (x : Int) (w : World) (hc : w.cell? ⟨a, 1, none⟩ = some (.int .i64 x)) : Calls Try.prog 18 #[.pointer (some ⟨a, 1, none⟩)] w fun e w' => e = .returned (.int .i64 x) ∧ w = w' := by
  have hl := run_call_load (P := Try.prog) Try.func30 (by kernel_rfl) (by kernel_rfl) (by kernel_rfl) .i64 (by kernel_rfl) hc
  go_enter Try.func18, Try.ntmps18
  go_wp2_with fail
  go_ret
  exact ⟨rfl, rfl⟩
set_option maxHeartbeats 1000000 in
set_option maxRecDepth 100000 in
theorem add_any (a : Nat) (x y s : Int) (w : World) (hc : w.cell? ⟨a, 1, none⟩ = some (.int .i64 x)) (hz : w.frozen? ⟨a, 1, none⟩ = false) (hs : wrap64 (x + y) = s) :
    Calls Try.prog 14 #[.pointer (some ⟨a, 1, none⟩), .int .i64 y] w fun e w' => e = .returned (.int .i64 s) ∧ w' = w.setCell ⟨a, 1, none⟩ (.int .i64 s) := by
  have hl := run_call_add (P := Try.prog) Try.func22 (by kernel_rfl) (by kernel_rfl) (by kernel_rfl) .i64 (by kernel_rfl) (y := y) (s := s) hc hz (by rw [← hs]; simp [go_sem]; rw [IntKind.wrap_i64]; unfold wrap64; omega)
  go_enter Try.func14, Try.ntmps14
  go_wp2_with fail
  go_ret
  exact ⟨rfl, rfl⟩
set_option maxHeartbeats 1000000 in
set_option maxRecDepth 100000 in
theorem used_any {B d pb kb q u : Nat} {fs : Files} {w : World} (h : StI B w d pb kb q u fs) : Calls Try.prog 11 #[.pointer (some ⟨d, 0, none⟩)] w fun e w' => e = .returned (.int .i64 (u : Nat)) ∧ w = w' := by
  have HL := Lib.hid (load_any d (u : Nat) w (h.blk.cell 1))
  clear h
  go_enter Try.func11, Try.ntmps11
  go_wp2_with fail
  refine HL.out.mono ?_
  rintro e w' ⟨rfl, rfl⟩
  go_wp2_with fail
  go_ret
  exact ⟨rfl, rfl⟩
/-! ### nil -/
set_option maxRecDepth 100000 in
theorem put_nil (s : Bytes) (w : World) : Calls Try.prog 4 #[.pointer none, .string (bs s)] w fun e w' => e = .returned (.tuple #[.string ⟨#[]⟩, .int .i64 2]) ∧ w = w' := by
  go_enter Try.func4, Try.ntmps4
  go_wp2_with fail
  go_ret2
  exact ⟨rfl, rfl⟩
set_option maxRecDepth 100000 in
theorem get_nil (s : Bytes) (w : World) : Calls Try.prog 5 #[.pointer none, .string (bs s)] w fun e w' => e = .returned (.tuple #[.string ⟨#[]⟩, .int .i64 2]) ∧ w = w' := by
  go_enter Try.func5, Try.ntmps5
  go_wp2_with fail
  go_ret2
  exact ⟨rfl, rfl⟩
set_option maxRecDepth 100000 in
theorem missing_nil (s : Bytes) (w : World) : Calls Try.prog 6 #[.pointer none, .string (bs s)] w fun e w' => e = .returned (.tuple #[.slice none 0 0, .int .i64 2]) ∧ w = w' := by
  go_enter Try.func6, Try.ntmps6
  go_wp2_with fail
  go_ret2
  exact ⟨rfl, rfl⟩
set_option maxRecDepth 100000 in
theorem file_nil (s : Bytes) (w : World) : Calls Try.prog 7 #[.pointer none, .string (bs s)] w fun e w' => e = .returned (.tuple #[.string ⟨#[]⟩, .int .i64 2]) ∧ w = w' := by
  have HM := Lib.hid (missing_nil s w)
  go_enter Try.func7, Try.ntmps7
  go_wp2_with fail
  refine HM.out.mono ?_
  rintro e w' ⟨rfl, rfl⟩
  go_wp2_with fail
  go_ret2
  exact ⟨rfl, rfl⟩
set_option maxRecDepth 100000 in
theorem hold_nil (s : Bytes) (w : World) : Calls Try.prog 8 #[.pointer none, .string (bs s)] w fun e w' => e = .returned (.int .i64 2) ∧ w = w' := by
  go_enter Try.func8, Try.ntmps8
  go_wp2_with fail
  go_ret
  exact ⟨rfl, rfl⟩
set_option maxRecDepth 100000 in
theorem free_nil (s : Bytes) (w : World) : Calls Try.prog 9 #[.pointer none, .string (bs s)] w fun e w' => e = .returned (.int .i64 2) ∧ w = w' := by
  go_enter Try.func9, Try.ntmps9
  go_wp2_with fail
  go_ret
  exact ⟨rfl, rfl⟩
set_option maxRecDepth 100000 in
theorem collect_nil (w : World) : Calls Try.prog 10 #[.pointer none] w fun e w' => e = .returned (.int .i64 0) ∧ w = w' := by
  go_enter Try.func10, Try.ntmps10
  go_wp2_with fail
  go_ret
  exact ⟨rfl, rfl⟩
set_option maxRecDepth 100000 in
theorem used_nil (w : World) : Calls Try.prog 11 #[.pointer none] w fun e w' => e = .returned (.int .i64 0) ∧ w = w' := by
  go_enter Try.func11, Try.ntmps11
  go_wp2_with fail
  go_ret
  exact ⟨rfl, rfl⟩
end Go.Proofs.Ytnfbakldpjmbnaa
