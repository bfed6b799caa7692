/- Children of the document. -/
import Derived.Test.YthaekoeekpofpaaF
namespace Go.Proofs.Ythaekoeekpofpaa
open Go.RowKit
attribute [local go_sem] bs_size bs_getElem bs_list bs_append

set_option maxRecDepth 100000 in
set_option maxHeartbeats 3200000 in
theorem rkids_any (s : St) (A : Option Addr) (n c : Nat) (xs : List Nd) (w : World) (hx : Nds w A n c xs) (hm : n ≤ 1000000) :
    Calls Try.prog 27 #[.slice A n c, sv s] w fun e w' => ∃ v, e = .returned v ∧ Own w' w.heap.size v (kidsN s xs) ∧ Below w.heap.size w w' := by
  obtain ⟨i0, hi0, hz0, hz1, hz2⟩ := info_parts info37
  have hn := hx.len
  have hmx := hx.max
  have hle := hx.le
  have hb1 : Below w.heap.size w (w.alloc (.cells #[.int .i64 s.1, .int .i64 s.2] 30)) := (Below.refl _ w).alloc (Nat.le_refl _) _
  have hB := Blk.new w 30 #[.int .i64 s.1, .int .i64 s.2]
  obtain ⟨w1, hw1⟩ : ∃ w1, w1 = w.alloc (.cells #[.int .i64 s.1, .int .i64 s.2] 30) := ⟨_, rfl⟩
  have hsz : w1.heap.size = w.heap.size + 1 := by rw [hw1]; exact Array.size_push _
  rw [← hw1] at hb1 hB
  have HW := Lib.hid hw1
  have HX := Lib.hid hx
  have HB1 := Lib.hid hb1
  have HBk := Lib.hid hB
  have HI := Lib.hid hi0
  have HZ0 := Lib.hid hz0
  have HZ1 := Lib.hid hz1
  have HZ2 := Lib.hid hz2
  clear hw1 hx hb1 hB hi0 hz0 hz1 hz2 hsz
  unfold sv
  go_enter Try.func27, Try.ntmps27
  go_wp2_with fail
  rw [← HW.out]
  go_loopw [5, 6] (fun u i wr => ∃ k : Nat, k ≤ n ∧ i = .int .i64 k ∧ Own wr (w.heap.size + 1) u (kidsN s (xs.take k)) ∧ Below w.heap.size w wr ∧ Blk wr w.heap.size 30 #[.int .i64 s.1, .int .i64 s.2]) (fun _ i _ => n - (intOf i).toNat)
  case atStart => exact ⟨0, by omega, rfl, OwnC.nil_ _ _ _, HB1.out, HBk.out⟩
  case round =>
    obtain ⟨k, hk, rfl, hO, hb, hBr⟩ := hrel
    have hBl := hBr.lt
    have q0 := hBr.cell 0
    have q1 := hBr.cell 1
    simp only [List.getElem?_toArray, List.getElem?_cons_zero, List.getElem?_cons_succ] at q0 q1
    rcases Nat.lt_or_ge k n with hlt | hge
    · obtain ⟨b, off, rfl, hbl, c0, c1, c2, c3, c4, c5, c6, _⟩ := Nds.at_ (HX.out.below hb) (by omega : k < xs.length)
      have hnext := kids_succ s xs k (by omega)
      have hkl := kids_len s xs k
      generalize xs[k] = x at *
      have hki : (k : Int) < (n : Int) := by omega
      have he := run_eql_st x.par s
      obtain ⟨A2, cc2, rfl⟩ := OwnC.isSlice hO
      have HO2 := Lib.hid hO
      have HB2 := Lib.hid hb
      have HBr2 := Lib.hid hBr
      clear hO hb hBr
      by_cases hp : x.par = s
      · have hd : decide (x.par = s) = true := decide_eq_true hp
        rw [if_pos hp] at hnext
        have HNx := Lib.hid hnext
        simp only [hd] at he
        clear hp hd hnext
        go_wp2_with fail
        go_quiet (fail)
        obtain ⟨wq, hwq⟩ : ∃ wq, wq = wr.drewN nq := ⟨_, rfl⟩
        have hb0 : Below wr.heap.size wr wq := hwq ▸ below_drewN (Below.refl _ _) nq
        rw [← hwq]
        have c0 := cell_below hb0 hbl c0
        have c1 := cell_below hb0 hbl c1
        have c2 := cell_below hb0 hbl c2
        have c3 := cell_below hb0 hbl c3
        have c4 := cell_below hb0 hbl c4
        have c5 := cell_below hb0 hbl c5
        have c6 := cell_below hb0 hbl c6
        have hO3 := HO2.out.below hb0
        have hB3 := HB2.out.trans (hb0.mono HB2.out.size)
        have hBr3 := HBr2.out.below hb0 hBl
        have hO4 := OwnC.alloc hO3 (.cells (nc x).toArray 37)
        have hB4 := hB3.alloc hB3.size (.cells (nc x).toArray 37)
        have hBr4 := hBr3.alloc (.cells (nc x).toArray 37)
        have hge := OwnC.ge hO4
        have hsz4 : w.heap.size + 1 ≤ (wq.alloc (.cells (nc x).toArray 37)).heap.size := by have := hb0.size; simp; omega
        have HO4 := Lib.hid hO4
        have HB4 := Lib.hid hB4
        have HBr4 := Lib.hid hBr4
        have HGe := Lib.hid hge
        have HSz4 := Lib.hid hsz4
        clear hO3 hB3 hBr3 hO4 hB4 hBr4 hge hsz4 hb0 hwq
        go_wp2_with (at_builtin; refine wpList_append_C _ rfl (.tmp 20) (.tmp 25) 25 25 rfl 37 i0 (.agg #[.int .i64 0, .int .i64 0, .bool false, .int .i64 0, .int .i64 0, .string ⟨#[]⟩, .string ⟨#[]⟩]) 7 Try.underlying25 HI.out HZ0.out HZ1.out rfl (by decide) (w.heap.size + 1) _ (kidsN s (xs.take k)).length (ncs (kidsN s (xs.take k))) rfl HO4.out (.slice (some ⟨wq.heap.size, 0, none⟩) 1 1) rfl 1 (nc x) ?c1 ?c3 ?c4 ?c5 ?_)
        case c1 => exact Src.nd x (Blk.new _ _ _)
        case c3 => unfold maxLen; omega
        case c4 => rw [HZ2.out]; omega
        case c5 => exact HSz4.out
        intro v' w3 hown hgrow hat
        have HOn := Lib.hid (Own.snoc hown)
        have HBn := Lib.hid (gb_own HB4.out (Nat.le_succ _) (Nat.le_of_succ_le HSz4.out) HO4.out hgrow)
        have HBrn := Lib.hid (Blk.grown HBr4.out hgrow (fun e => by have := (HGe.out _ e.symm).1; omega))
        clear hown hgrow hat
        go_wp2_with fail
        exact ⟨⟨k + 1, by omega, by go_num, by rw [HNx.out]; exact HOn.out, HBn.out, HBrn.out⟩, by simp [intOf]; omega⟩
      · have hd : decide (x.par = s) = false := decide_eq_false hp
        rw [if_neg hp, List.append_nil] at hnext
        have HNx := Lib.hid hnext
        simp only [hd] at he
        clear hp hd hnext
        go_wp2_with fail
        go_quiet (fail)
        have hb0 : Below wr.heap.size wr (wr.drewN nq) := below_drewN (Below.refl _ _) nq
        have HO3 := Lib.hid (HO2.out.below hb0)
        have HB3 := Lib.hid (HB2.out.trans (hb0.mono HB2.out.size))
        have HBr3 := Lib.hid (HBr2.out.below hb0 hBl)
        clear hb0
        go_wp2_with fail
        exact ⟨⟨k + 1, by omega, by go_num, by rw [HNx.out]; exact HO3.out, HB3.out, HBr3.out⟩, by simp [intOf]; omega⟩
    · have hkn : ¬ (k : Int) < (n : Int) := by omega
      have hfin : xs.take k = xs := List.take_of_length_le (by omega)
      rw [hfin] at hO
      have HO := Lib.hid hO
      have HB := Lib.hid hb
      clear hO hb hBr hfin
      go_wp2_with fail
      go_ret
      exact ⟨_, rfl, HO.out.mono (Nat.le_succ _), HB.out⟩
end Go.Proofs.Ythaekoeekpofpaa
