/- maps.Clone; going over the files; the sum. -/
import Derived.Test.YticgcpbblefacaaRows
import Derived.Test.YticgcpbblefacaaFs
import Derived.Shelf.SlMaps.Clone
import Derived.Maps.RangeWalk
namespace Go.Proofs.Yticgcpbblefacaa
open Go.RowKit

set_option maxHeartbeats 2000000 in
set_option maxRecDepth 100000 in
theorem clone_any (b : Nat) (fs : Files) (w : World) (hb : Fs w b fs) :
    Calls Try.prog 23 #[.map (some b)] w fun e w' => e = .returned (.map (some w.heap.size)) ∧ w' = w.alloc (fobj fs) := by
  have hq := fun w => run_eql_map_nil_sl (P := Try.prog) w 47 _ _ (some b) Try.underlying47
  go_enter Try.func23, Try.ntmps23
  go_wp2
  rw [run_callFunc_extern Try.func29 (by kernel_rfl) (by kernel_rfl) (by kernel_rfl) (e := Extern.MapsClone.clone) (by kernel_rfl), run_maps_clone_sl w 47 hb]
  simp only [Result.andThen]
  rw [Oper.upon_value]
  go_wp2
  rw [run_typeAssert_map_sl _ 47 20 _ _ _ Try.underlying47]
  simp only [Result.andThen]
  rw [Oper.upon_value]
  go_wp2
  go_ret
  exact ⟨rfl, rfl⟩

section
variable {P : Program} (w : World) {ops : Array Oper} {rest : List Oper} {o : Oper} {a : Act} {Q : Exit → Act → World → Prop}
theorem wpList_range_fs (hg : o.guard = none) (m : Operand) (t k e : TypeId) (hop : o.op = Op.range t m) (ht : P.underlying t = some (.map k e)) (b : Nat) (fs : Files) (hm : a.eval m = .map (some b)) (h : Fs w b fs)
    (hK : ∀ w', Rng w' b w.heap.size fs (tot fs) fs.length → Below w.heap.size w w' → wpList P ops Q rest (a.put o.dst (.pointer (some ⟨w.heap.size, 0, none⟩))) w') :
    wpList P ops Q (o :: rest) a w := by
  refine wpList_plain hg fun K' hK' => ?_
  obtain ⟨w', hrun, r1, r2⟩ := h.range ht
  unfold Oper.wp
  simp [execOp, hop, hm, hrun, Result.andThen]
  exact hK' _ _ (hK w' r1 r2)
theorem wpList_next_fs (hg : o.guard = none) (it : Operand) (hop : o.op = Op.next it false) (b r : Nat) (fs : Files) (s cnt : Nat) (hit : a.eval it = .pointer (some ⟨r, 0, none⟩)) (h : Rng w b r fs s cnt)
    (hDone : cnt = 0 → s = 0 → wpList P ops Q rest (a.put o.dst (.tuple #[.bool false])) w)
    (hMore : ∀ k v w', v.length ≤ s → 0 < cnt → Rng w' b r fs (s - v.length) (cnt - 1) → w.grownBy w' (some r) → (Instr.entry (.pointer (some ⟨r, 0, none⟩))).run P w' = .ok (.tuple #[.string (bs k), .string (bs v)]) w' →
      wpList P ops Q rest (a.put o.dst (.tuple #[.bool true, .string (bs k), .string (bs v)])) w') :
    wpList P ops Q (o :: rest) a w := by
  refine wpList_plain hg fun K' hK' => ?_
  unfold Oper.wp
  rcases h.next (P := P) o.type with ⟨h0, h1, hrun⟩ | ⟨k, v, w', h0, h1, hrun, h2, h3, h4⟩
  · simp [execOp, hop, hit, hrun, Result.andThen]
    exact hK' _ _ (hDone h0 h1)
  · simp [execOp, hop, hit, hrun, Result.andThen]
    exact hK' _ _ (hMore k v w' h0 h1 h2 h3 h4)
end

set_option maxHeartbeats 2000000 in
theorem size_any (d b : Nat) (cs : Array Value) (fs : Files) (w : World) (hd : Blk w d 50 cs) (hc : cs[1]? = some (.map (some b))) (hb : Fs w b fs) (ht : tot fs ≤ 1000000000) :
    Calls Try.prog 16 #[.pointer (some ⟨d, 0, none⟩)] w fun e w' => e = .returned (.int .i64 (tot fs : Nat)) ∧ Below w.heap.size w w' := by
  have hc1 : w.cell? ⟨d, 1, none⟩ = some (.map (some b)) := (hd.cell 1).trans hc
  go_enter Try.func16, Try.ntmps16
  go_wp2_with (at_range; refine wpList_range_fs _ rfl _ 47 _ _ rfl Try.underlying47 b fs rfl hb ?_; intro w1 hr1 hb1)
  go_frame
  have HB := Lib.hid hb1
  clear hb1 hc1 hc hd hb
  go_loopw [3] (fun sl wr => ∃ (s cnt acc : Nat), sl = .int .i64 (acc : Nat) ∧ acc + s = tot fs ∧ Rng wr b w.heap.size fs s cnt ∧ Below w.heap.size w wr) (fun _ wr => wr.rangeLeft b w.heap.size)
  case atStart => exact ⟨tot fs, fs.length, 0, rfl, by omega, hr1, HB.out⟩
  case round =>
    obtain ⟨s, cnt, acc, rfl, hs, hrg, hbx⟩ := hrel
    have hl := hrg.left
    have HBX := Lib.hid hbx
    have HS := Lib.hid hs
    clear hbx hs
    go_wp2_with (at_next; refine wpList_next_fs _ rfl _ rfl b w.heap.size fs s cnt rfl hrg ?_ ?_)
    · intro h0 h1
      go_wp2_with fail
      go_ret
      exact ⟨ret_int (by have := HS.out; omega), HBX.out⟩
    · intro k v w2 hv hcnt hrg2 hg2 hen
      go_wp2_with fail
      refine ⟨⟨s - v.length, cnt - 1, acc + v.length, ?_, by have := HS.out; omega, hrg2, HBX.out.grown hg2 HBX.out.size (fun j hj => by cases hj; exact Nat.le_refl _)⟩, by rw [hrg2.left, hl]; omega⟩
      have := HS.out
      rw [bs_size]
      have hw : wrap64 ((acc : Int) + v.length) = ((acc + v.length : Nat) : Int) := by unfold wrap64; omega
      rw [hw]
end Go.Proofs.Yticgcpbblefacaa
