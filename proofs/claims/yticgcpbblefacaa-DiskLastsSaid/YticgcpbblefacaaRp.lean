/- strings.Repeat of one nought byte. -/
import Derived.Test.YticgcpbblefacaaRows
import Derived.Test.YticgcpbblefacaaBs
import Derived.Test.YticgcpbblefacaaOwnC
import Derived.Test.YticgcpbblefacaaShelf
import Derived.Lib.RepeatB
import Derived.Deep.LoopGhost
import Derived.Deep.DeepCutAuto
import Derived.Deep.DeepFit
import Derived.Deep.CutBlock
namespace Go.Proofs.Yticgcpbblefacaa
open Go.RowKit Go.Shelf
attribute [local go_sem] bs_size bs_getElem bs_list bs_append

theorem size71 : (Try.prog.info? 71).map (·.size) = some 2 := by kernel_rfl
theorem lies71 : liesAt Try.prog Try.prog.depth 71 (2 / Try.prog.cellsOf 71) 0 71 1 = true := by kernel_rfl
theorem info5 : (Try.prog.info? 5).map (fun i => (i.zero, i.size, i.bytes)) = some (some (.int .u8 0), 1, 1) := by kernel_rfl

set_option maxHeartbeats 1000000 in
set_option maxRecDepth 100000 in
theorem copy_used (b : Nat) (w : World) (h0 : w.cell? ⟨b, 0, none⟩ = some (.pointer (some ⟨b, 0, none⟩))) :
    Calls Try.prog 45 #[.pointer (some ⟨b, 0, none⟩)] w fun e w' => e = .returned (.tuple #[]) ∧ w' = w := by
  obtain ⟨j, hj, _⟩ := Option.map_eq_some_iff.1 size71
  go_enter Try.func45, Try.ntmps45
  go_wp2
  rw [Lib.run_neq_ptr_same w _ Try.underlying69 hj]
  go_wp2
  go_end0
  exact ⟨rfl, rfl⟩

set_option maxHeartbeats 1000000 in
set_option maxRecDepth 100000 in
theorem copy_fresh (b : Nat) (w : World) (h0 : w.cell? ⟨b, 0, none⟩ = some (.pointer none)) (hsh : w.shape? b = some (71, 2)) (hfz : w.frozen? ⟨b, 0, none⟩ = false) :
    Calls Try.prog 45 #[.pointer (some ⟨b, 0, none⟩)] w fun e w' => e = .returned (.tuple #[]) ∧ w' = w.setCell ⟨b, 0, none⟩ (.pointer (some ⟨b, 0, none⟩)) := by
  obtain ⟨j, hj, hjs⟩ := Option.map_eq_some_iff.1 size71
  go_enter Try.func45, Try.ntmps45
  go_wp2
  rw [Lib.run_to_unsafe w ⟨b, 0, none⟩ Try.underlying69 Try.underlying97 hj (by rw [hjs]; decide) hsh (Nat.zero_lt_succ 1)]
  simp only [Result.andThen]
  rw [Oper.upon_value]
  go_wp2
  rw [run_callFunc_extern Try.func58 (by kernel_rfl) (by kernel_rfl) (by kernel_rfl) (e := Extern.AbiNoEscape.same) (by kernel_rfl)]
  rw [Lib.run_noEscape]
  simp only [Result.andThen]
  rw [Oper.upon_value]
  go_wp2
  rw [Lib.run_from_unsafe w ⟨b, 0, none⟩ Try.underlying97 Try.underlying69 hj hsh lies71]
  simp only [Result.andThen]
  rw [Oper.upon_value]
  go_wp2
  go_end0
  exact ⟨rfl, rfl⟩

/-- a builder's bytes, some of them read already -/
abbrev Bld (w : World) (B b : Nat) (l : List Value) : Prop := Lib.IsBuilderF 71 5 B b l w

set_option maxHeartbeats 2000000 in
set_option maxRecDepth 100000 in
theorem write_f (B b : Nat) (l : List Value) (s : ByteArray) (w : World) (h : Bld w B b l) (hlen : l.length + s.size ≤ 1000000000) (hBw : B ≤ w.heap.size) :
    Calls Try.prog 36 #[.pointer (some ⟨b, 0, none⟩), .string s] w fun e w' => e = .returned (.tuple #[.int .i64 s.size, .nilIface]) ∧ Bld w' B b (l ++ Lib.strCells s) ∧ Below B w w' := by
  obtain ⟨i0, hi, hz0, hz1, hz2⟩ := info_parts info5
  have hcopy : Calls Try.prog 45 #[.pointer (some ⟨b, 0, none⟩)] w fun e w' => e = .returned (.tuple #[]) ∧ Lib.BuilderAtF 71 5 B b (.pointer (some ⟨b, 0, none⟩)) l w' ∧ Below B w w' := by
    rcases h with h | h
    · refine (copy_fresh b w h.cell0 h.shape h.frozen0).mono ?_
      rintro e w' ⟨rfl, rfl⟩
      exact ⟨rfl, h.used _, (Below.refl B w).setCell (p := ⟨b, 0, none⟩) h.1 _⟩
    · refine (copy_used b w h.cell0).mono ?_
      rintro e w' ⟨rfl, rfl⟩
      exact ⟨rfl, h, Below.refl B _⟩
  have HC := Lib.hid hcopy
  clear hcopy h
  go_enter Try.func36, Try.ntmps36
  go_wp2_with fail
  refine HC.out.mono ?_
  rintro e w1 ⟨rfl, ⟨hB, v, hbk, hown, hne⟩, hb1⟩
  have c0 : w1.cell? ⟨b, 0, none⟩ = some (.pointer (some ⟨b, 0, none⟩)) := by rw [Lib.cell_of_heap hbk]; rfl
  have c1 : w1.cell? ⟨b, 1, none⟩ = some v := by rw [Lib.cell_of_heap hbk]; rfl
  go_wp2_with (at_builtin; refine Lib.wpList_append_own_stringF _ rfl _ _ 32 9 rfl B 5 i0 Try.underlying32 Try.underlying9 hi hz0 hz1 hz2 _ _ _ rfl hown s rfl ?c3 ?c4 ?c5 ?_)
  case c3 => unfold maxLen; omega
  case c4 => omega
  case c5 => have := hb1.size; omega
  intro v' w2 hown' hgrow _
  have hlt : b < w1.heap.size := by
    rcases Nat.lt_or_ge b w1.heap.size with h' | h'
    · exact h'
    · simp [Array.getElem?_eq_none h'] at hbk
  have hb2 : w2.heap[b]? = some (.cells #[.pointer (some ⟨b, 0, none⟩), v] 71 (0, 0)) := by
    rw [hgrow.block b hlt (fun e => hne e.symm)]
    exact hbk
  have d0 : w2.cell? ⟨b, 0, none⟩ = some (.pointer (some ⟨b, 0, none⟩)) := by rw [Lib.cell_of_heap hb2]; rfl
  have d1 : w2.cell? ⟨b, 1, none⟩ = some v := by rw [Lib.cell_of_heap hb2]; rfl
  have f1 : w2.frozen? ⟨b, 1, none⟩ = false := Lib.frozen_of_heap hb2 1
  obtain ⟨ao, n', cap, rfl⟩ : ∃ ao n' cap, v' = .slice ao n' cap := by
    rcases hown'.2 with ⟨hv, _⟩ | ⟨g, cap, cur, fz, hv, _⟩
    · exact ⟨_, _, _, hv⟩
    · exact ⟨_, _, _, hv⟩
  have HO := Lib.hid hown'
  have HG := Lib.hid hgrow
  have HN := Lib.hid hown
  clear hown' hgrow hown
  go_wp2_with fail
  go_ret2
  refine ⟨rfl, .inr ?_, ?_⟩
  · exact Lib.BuilderAtF.put (T := 71) (e := 5) hB hb2 (bs' := l ++ Lib.strCells s) (by simpa [Lib.strCells_length] using HO.out) (by decide)
  · exact (hb1.grown HG.out (by have := hb1.size; omega) (fun k hk => (HN.out.lt k hk).1)).setCell (p := ⟨b, 1, none⟩) hB _

/-- so many noughts -/
def zeros (n : Nat) : List UInt8 := List.replicate n 0
theorem zeros_len (n : Nat) : (zeros n).length = n := by simp [zeros]
theorem zeros_one : (⟨#[0]⟩ : ByteArray) = bs (zeros 1) := rfl

set_option maxHeartbeats 4000000 in
set_option maxRecDepth 1000000 in
theorem repeat_any (c : Nat) (w : World) (h1 : 1 ≤ c) (h2 : c ≤ 8192) :
    Calls Try.prog 28 #[.string ⟨#[0]⟩, .int .i64 c] w fun e w' => e = .returned (.string (bs (zeros c))) ∧ Below w.heap.size w w' := by
  by_cases hc2 : 1 < c
  case neg =>
    obtain rfl : c = 1 := by omega
    go_enter Try.func28, Try.ntmps28
    go_wp2_with fail
    go_ret
    exact ⟨rfl, Below.refl _ _⟩
  have hMul := Try.bits_Mul 1 c (by omega) (by omega) w
  rw [Nat.one_mul, Nat.div_eq_of_lt (by omega : c < 18446744073709551616), Nat.mod_eq_of_lt (by omega : c < 18446744073709551616)] at hMul
  have HM := Lib.hid hMul
  clear hMul
  go_enter Try.func28, Try.ntmps28
  go_wp2_with fail
  refine HM.out.mono ?_
  rintro e w' ⟨rfl, hw⟩
  rw [hw]
  clear hw w'
  go_wp2_with fail
  have b0 : Below w.heap.size w (w.alloc (.cells #[.pointer none, .slice none 0 0] 71)) := (Below.refl _ w).alloc (Nat.le_refl _) _
  refine (Try.Builder_Grow_fresh w.heap.size w.heap.size c (w.alloc (.cells #[.pointer none, .slice none 0 0] 71)) (Nat.le_refl _) (heap_alloc_new w _) b0.size (by omega)).mono ?_
  rintro e W1 ⟨rfl, g1, b1⟩
  have B1 := Lib.hid b1
  have B0 := Lib.hid b0
  clear b0 b1
  go_wp2_with fail
  refine (write_f w.heap.size w.heap.size [] ⟨#[0]⟩ W1 (Lib.IsBuilderF.of (Or.inr g1)) (by decide) (Nat.le_trans B0.out.size B1.out.size)).mono ?_
  rintro e W2 ⟨rfl, g2, b2⟩
  have b02 : Below w.heap.size w W2 := B0.out.trans (B1.out.trans b2)
  have g2' : Bld W2 w.heap.size w.heap.size (Lib.byteCells (zeros 1)) := g2
  clear g1 g2 b2 B0 B1
  go_wp2_with fail
  go_loopg [] (c - 1) (fun g wx => ∃ q : Nat, 1 ≤ q ∧ q + g = c ∧ Bld wx w.heap.size w.heap.size (Lib.byteCells (zeros q)) ∧ Below w.heap.size w wx)
  case atStart => exact ⟨1, Nat.le_refl _, by omega, g2', b02⟩
  case round =>
    obtain ⟨q, hq1, hqg, hB, hbx⟩ := hrel
    have cLen := Try.Builder_Len_f w.heap.size w.heap.size _ wr hB
    rw [Lib.byteCells_length, zeros_len] at cLen
    have cStr := Try.Builder_String_any_f w.heap.size w.heap.size (zeros q) wr hB hbx.size
    obtain ⟨S, hS⟩ : ∃ S : ByteArray, (⟨(zeros q).toArray⟩ : ByteArray) = S := ⟨_, rfl⟩
    have hSz : S.size = q := by rw [← hS]; simp [ByteArray.size, zeros_len]
    rw [hS] at cStr
    have hSd : S.data.toList = zeros q := by rw [← hS]
    have HS := Lib.hid hS
    have HSD := Lib.hid hSd
    clear hS hSd
    have CL := Lib.hid cLen
    have CS := Lib.hid cStr
    have HBX := Lib.hid hbx
    clear cLen cStr hbx hB
    cases gk with
    | zero =>
      obtain rfl : q = c := by omega
      go_wp2_with (first
        | (go_at_call 37; refine CL.out.mono ?_; rintro e w' ⟨rfl, hw⟩; rw [hw])
        | (go_at_call 38; refine CS.out.mono ?_; rintro e W3 ⟨rfl, h3, b3⟩))
      go_ret
      exact ⟨by rw [← HS.out]; rfl, HBX.out.trans b3⟩
    | succ g =>
      obtain ⟨k, hk1, hkq, hkc, hmin⟩ := Lib.chunk_ok c q c 1 hq1 (by omega) h1
      simp only [Nat.mul_one] at hmin
      have hlt : (q : Int) < (c : Int) := by omega
      have hmin3 : ∀ (ts : Array TypeId) (t : TypeId) (W : World), (Builtin.min_ ts t #[.int .i64 ((c : Int) - (q : Int)), .int .i64 (q : Int), .int .i64 (c : Int)]).run Try.prog W = .ok (.int .i64 (k : Int)) W := fun ts t W => by
        have e3 : (Builtin.min_ ts t #[.int .i64 ((c : Int) - (q : Int)), .int .i64 (q : Int), .int .i64 (c : Int)]).run Try.prog W = .ok (.int .i64 (if (c : Int) < (if (q : Int) < (c : Int) - (q : Int) then (q : Int) else (c : Int) - (q : Int)) then (c : Int) else (if (q : Int) < (c : Int) - (q : Int) then (q : Int) else (c : Int) - (q : Int)))) W := by
          simp [Builtin.min_, Builtin.min2]
        rw [e3]
        congr 2
        rw [← hmin]
        omega
      have HMIN := Lib.hid hmin
      clear hmin
      go_wp2_with (first
        | (go_at_call 37; refine CL.out.mono ?_; rintro e w' ⟨rfl, hw⟩; rw [hw])
        | (go_at_call 38; refine CS.out.mono ?_; rintro e W3 ⟨rfl, h3, b3⟩))
      refine (write_f w.heap.size w.heap.size _ (S.extract 0 k) W3 h3 ?c1 (Nat.le_trans HBX.out.size b3.size)).mono ?_
      case c1 =>
        rw [Lib.byteCells_length, zeros_len, Lib.size_eq, Lib.extract_data, HSD.out]
        simp [zeros]
        omega
      rintro e W4 ⟨rfl, h4, b4⟩
      go_wp2_with fail
      go_roundg (c - (q + k))
      case measure => omega
      case rel =>
        refine ⟨q + k, by omega, by omega, ?_, HBX.out.trans (b3.trans b4)⟩
        rw [Lib.strCells_eq, ← Lib.byteCells_append, Lib.extract_data, HSD.out] at h4
        have hz : zeros q ++ List.take (k - 0) (List.drop 0 (zeros q)) = zeros (q + k) := by
          simp [zeros, List.take_replicate, Nat.min_eq_left hkq, List.replicate_append_replicate]
        rw [hz] at h4
        exact h4
end Go.Proofs.Yticgcpbblefacaa
