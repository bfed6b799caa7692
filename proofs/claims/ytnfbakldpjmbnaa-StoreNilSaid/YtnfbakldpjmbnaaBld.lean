/- strings.Builder: WriteString, with all that it leaves alone. -/
import Derived.Test.YtnfbakldpjmbnaaRows
import Derived.Test.YtnfbakldpjmbnaaBs
import Derived.Test.YtnfbakldpjmbnaaOwnC
import Derived.Test.YtnfbakldpjmbnaaShelf
import Derived.Lib.OthersKept
import Derived.Shelf.Strings.Builder1
namespace Go.Proofs.Ytnfbakldpjmbnaa
open Go.RowKit Go.Shelf
attribute [local go_sem] bs_size bs_getElem bs_list bs_append

theorem size39 : (Try.prog.info? 64).map (·.size) = some 2 := by kernel_rfl
theorem lies39 : liesAt Try.prog Try.prog.depth 64 (2 / Try.prog.cellsOf 64) 0 64 1 = true := by kernel_rfl
theorem info5 : (Try.prog.info? 5).map (fun i => (i.zero, i.size, i.bytes)) = some (some (.int .u8 0), 1, 1) := by kernel_rfl

set_option maxHeartbeats 1000000 in
set_option maxRecDepth 100000 in
theorem copy_used (b : Nat) (w : World) (h0 : w.cell? ⟨b, 0, none⟩ = some (.pointer (some ⟨b, 0, none⟩))) :
    Calls Try.prog 36 #[.pointer (some ⟨b, 0, none⟩)] w fun e w' => e = .returned (.tuple #[]) ∧ w' = w := by
  obtain ⟨j, hj, _⟩ := Option.map_eq_some_iff.1 size39
  go_enter Try.func36, Try.ntmps36
  go_wp2
  rw [Lib.run_neq_ptr_same w _ Try.underlying61 hj]
  go_wp2
  go_end0
  exact ⟨rfl, rfl⟩

set_option maxHeartbeats 1000000 in
set_option maxRecDepth 100000 in
theorem copy_fresh (b : Nat) (w : World) (h0 : w.cell? ⟨b, 0, none⟩ = some (.pointer none)) (hsh : w.shape? b = some (64, 2)) (hfz : w.frozen? ⟨b, 0, none⟩ = false) :
    Calls Try.prog 36 #[.pointer (some ⟨b, 0, none⟩)] w fun e w' => e = .returned (.tuple #[]) ∧ w' = w.setCell ⟨b, 0, none⟩ (.pointer (some ⟨b, 0, none⟩)) := by
  obtain ⟨j, hj, hjs⟩ := Option.map_eq_some_iff.1 size39
  go_enter Try.func36, Try.ntmps36
  go_wp2
  rw [Lib.run_to_unsafe w ⟨b, 0, none⟩ Try.underlying61 Try.underlying91 hj (by rw [hjs]; decide) hsh (Nat.zero_lt_succ 1)]
  simp only [Result.andThen]
  rw [Oper.upon_value]
  go_wp2
  rw [run_callFunc_extern Try.func42 (by kernel_rfl) (by kernel_rfl) (by kernel_rfl) (e := Extern.AbiNoEscape.same) (by kernel_rfl)]
  rw [Lib.run_noEscape]
  simp only [Result.andThen]
  rw [Oper.upon_value]
  go_wp2
  rw [Lib.run_from_unsafe w ⟨b, 0, none⟩ Try.underlying91 Try.underlying61 hj hsh lies39]
  simp only [Result.andThen]
  rw [Oper.upon_value]
  go_wp2
  go_end0
  exact ⟨rfl, rfl⟩
/-- a builder's bytes -/
abbrev Bld (w : World) (B b : Nat) (l : List UInt8) : Prop := Lib.IsBuilder 64 5 B b (bv l) w
theorem Bld.fresh (w : World) : Bld (w.alloc (.cells #[.pointer none, .slice none 0 0] 64)) w.heap.size w.heap.size [] := Lib.fresh_isBuilder 64 5 w

set_option maxHeartbeats 2000000 in
set_option maxRecDepth 100000 in
theorem write_any (B b : Nat) (l s : List UInt8) (w : World) (h : Bld w B b l) (hlen : l.length + s.length ≤ 1000000000) (hBw : B ≤ w.heap.size) :
    Calls Try.prog 28 #[.pointer (some ⟨b, 0, none⟩), .string (bs s)] w fun e w' => e = .returned (.tuple #[.int .i64 s.length, .nilIface]) ∧ Bld w' B b (l ++ s) ∧ Below B w w' ∧ Lib.OthersKept 5 (some b) w w' := by
  obtain ⟨i0, hi, hz0, hz1, hz2⟩ := info_parts info5
  have hcopy : Calls Try.prog 36 #[.pointer (some ⟨b, 0, none⟩)] w fun e w' => e = .returned (.tuple #[]) ∧ Lib.BuilderAt 64 5 B b (.pointer (some ⟨b, 0, none⟩)) (bv l) w' ∧ Below B w w' ∧ Lib.OthersKept 5 (some b) w w' := by
    rcases h with h | h
    · refine (copy_fresh b w h.cell0 h.shape h.frozen0).mono ?_
      rintro e w' ⟨rfl, rfl⟩
      exact ⟨rfl, h.used _, (Below.refl B w).setCell (p := ⟨b, 0, none⟩) h.1 _, (Lib.OthersKept.refl _ _ _).setCell ⟨b, 0, none⟩ rfl _⟩
    · refine (copy_used b w h.cell0).mono ?_
      rintro e w' ⟨rfl, rfl⟩
      exact ⟨rfl, h, Below.refl B _, Lib.OthersKept.refl _ _ _⟩
  have HC := Lib.hid hcopy
  clear hcopy h
  go_enter Try.func28, Try.ntmps28
  go_wp2_with fail
  refine HC.out.mono ?_
  rintro e w1 ⟨rfl, ⟨hB, v, hbk, hown, hne⟩, hb1, hk1⟩
  have c0 : w1.cell? ⟨b, 0, none⟩ = some (.pointer (some ⟨b, 0, none⟩)) := by rw [Lib.cell_of_heap hbk]; rfl
  have c1 : w1.cell? ⟨b, 1, none⟩ = some v := by rw [Lib.cell_of_heap hbk]; rfl
  have hbv : (bv l).length = l.length := by simp [bv]
  rw [hbv] at hown
  go_wp2_with (at_builtin; refine Lib.wpList_append_own_string _ rfl _ _ 62 9 rfl B 5 i0 Try.underlying62 Try.underlying9 hi hz0 hz1 hz2 _ _ _ rfl hown (bs s) rfl ?c3 ?c4 ?c5 ?_)
  case c3 => unfold maxLen; rw [bs_size]; omega
  case c4 => rw [bs_size]; omega
  case c5 => have := hb1.size; omega
  intro v' w2 hown' hgrow _
  have hlt : b < w1.heap.size := by
    rcases Nat.lt_or_ge b w1.heap.size with h' | h'
    · exact h'
    · simp [Array.getElem?_eq_none h'] at hbk
  have hb2 : w2.heap[b]? = some (.cells #[.pointer (some ⟨b, 0, none⟩), v] 64 (0, 0)) := by
    rw [hgrow.block b hlt (fun e => hne e.symm)]
    exact hbk
  have d0 : w2.cell? ⟨b, 0, none⟩ = some (.pointer (some ⟨b, 0, none⟩)) := by rw [Lib.cell_of_heap hb2]; rfl
  have d1 : w2.cell? ⟨b, 1, none⟩ = some v := by rw [Lib.cell_of_heap hb2]; rfl
  have f1 : w2.frozen? ⟨b, 1, none⟩ = false := Lib.frozen_of_heap hb2 1
  obtain ⟨ao, n', cap, rfl⟩ : ∃ ao n' cap, v' = .slice ao n' cap := by
    rcases hown'.2 with ⟨hv, _⟩ | ⟨g, cap, cur, hv, _⟩
    · exact ⟨_, _, _, hv⟩
    · exact ⟨_, _, _, hv⟩
  have HO := Lib.hid hown'
  have HG := Lib.hid hgrow
  have HN := Lib.hid hown
  clear hown' hgrow hown
  go_wp2_with fail
  go_ret2
  refine ⟨rfl, .inr ?_, ?_, ?_⟩
  · exact Lib.BuilderAt.put (T := 64) (e := 5) hB hb2 (bs' := bv (l ++ s)) (by have := HO.out; rw [bv_append]; simpa [bv, Lib.strCells, bs] using this) (by decide)
  · exact (hb1.grown HG.out (by have := hb1.size; omega) (fun k hk => (HN.out.lt k hk).1)).setCell (p := ⟨b, 1, none⟩) hB _
  · refine (hk1.trans (Lib.OthersKept.grown (Lib.OthersKept.refl _ _ _) HG.out (fun g hg => ?_))).setCell ⟨b, 1, none⟩ rfl _
    rcases HN.out.2 with ⟨rfl, _⟩ | ⟨g', cap, cur, rfl, _, hgb, _⟩
    · simp [Value.ownBlock] at hg
    · obtain rfl : g' = g := by simpa [Value.ownBlock] using hg
      exact ⟨_, _, hgb⟩

theorem string_any (B b : Nat) (l : List UInt8) (w : World) (h : Bld w B b l) (hBw : B ≤ w.heap.size) :
    Calls Try.prog 29 #[.pointer (some ⟨b, 0, none⟩)] w fun e w' => e = .returned (.string (bs l)) ∧ Below B w w' := Try.Builder_String_any B b l w h hBw
end Go.Proofs.Ytnfbakldpjmbnaa
