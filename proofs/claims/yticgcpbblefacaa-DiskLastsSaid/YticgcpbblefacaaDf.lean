/- Sync, Arm, Dead, Crash. -/
import Derived.Test.YticgcpbblefacaaDe
namespace Go.Proofs.Yticgcpbblefacaa
open Go.RowKit
attribute [local go_sem] bs_size bs_getElem bs_list bs_append

set_option maxHeartbeats 1000000 in
theorem arm_any {B d nb fb : Nat} {v : Value} {st : DS} {w : World} (h : Dsk B w d nb fb v st) (n : Int) :
    Calls Try.prog 14 #[.pointer (some ⟨d, 0, none⟩), .int .i64 n] w fun e w' => e = .returned (.tuple #[]) ∧ Dsk B w' d nb fb v { st with armed := max n 0 } ∧ w.grownBy w' (some d) := by
  obtain ⟨m, hm⟩ : ∃ m, m = max n 0 := ⟨_, rfl⟩
  rw [← hm]
  have f4 := h.blk.frozen 4
  have q4 : w.cell? ⟨d, 4, none⟩ = some (.int .i64 st.armed) := h.blk.cell 4
  have hS := h.blk.set_ 4 (.int .i64 m)
  have hg : w.grownBy (w.setCell ⟨d, 4, none⟩ (.int .i64 m)) (some d) := gb_setCell (gb_refl w _) (p := ⟨d, 4, none⟩) (.inl rfl) _
  have h' := h.cells (st' := { st with armed := m }) hg hS rfl rfl rfl
  have H := Lib.hid h'
  have HG := Lib.hid hg
  have hm' : max n 0 = m := hm.symm
  clear h' hg hS h hm
  go_enter Try.func14, Try.ntmps14
  go_wp2_with fail
  go_end0
  exact ⟨rfl, H.out, HG.out⟩
set_option maxHeartbeats 1000000 in
theorem arm_nil (n : Int) (w : World) : Calls Try.prog 14 #[.pointer none, .int .i64 n] w fun e w' => e = .returned (.tuple #[]) ∧ w = w' := by
  go_enter Try.func14, Try.ntmps14
  go_wp2_with fail
  go_end0
  exact ⟨rfl, rfl⟩
set_option maxHeartbeats 1000000 in
theorem dead_any {B d nb fb : Nat} {v : Value} {st : DS} {w : World} (h : Dsk B w d nb fb v st) :
    Calls Try.prog 15 #[.pointer (some ⟨d, 0, none⟩)] w fun e w' => e = .returned (.bool st.dead) ∧ w = w' := by
  have q5 : w.cell? ⟨d, 5, none⟩ = some (.bool st.dead) := h.blk.cell 5
  obtain ⟨b, hb⟩ : ∃ b, b = st.dead := ⟨_, rfl⟩
  rw [← hb] at q5 ⊢
  clear h hb
  go_enter Try.func15, Try.ntmps15
  go_wp2_with fail
  go_ret
  exact ⟨rfl, rfl⟩
set_option maxHeartbeats 1000000 in
theorem dead_nil (w : World) : Calls Try.prog 15 #[.pointer none] w fun e w' => e = .returned (.bool false) ∧ w = w' := by
  go_enter Try.func15, Try.ntmps15
  go_wp2_with fail
  go_ret
  exact ⟨rfl, rfl⟩
set_option maxHeartbeats 1000000 in
theorem size_nil (w : World) : Calls Try.prog 16 #[.pointer none] w fun e w' => e = .returned (.int .i64 0) ∧ w = w' := by
  go_enter Try.func16, Try.ntmps16
  go_wp2_with fail
  go_ret
  exact ⟨rfl, rfl⟩
set_option maxHeartbeats 1000000 in
theorem names_nil (w : World) : Calls Try.prog 18 #[.pointer none] w fun e w' => e = .returned (.slice none 0 0) ∧ w = w' := by
  go_enter Try.func18, Try.ntmps18
  go_wp2_with fail
  go_ret
  exact ⟨rfl, rfl⟩
set_option maxHeartbeats 1000000 in
theorem sync_nil (w : World) : Calls Try.prog 13 #[.pointer none] w fun e w' => e = .returned (.int .i64 2) ∧ w = w' := by
  go_enter Try.func13, Try.ntmps13
  go_wp2_with fail
  go_ret
  exact ⟨rfl, rfl⟩
set_option maxHeartbeats 1000000 in
theorem crash_nil (k : Int) (t : Bool) (w : World) : Calls Try.prog 12 #[.pointer none, .int .i64 k, .bool t] w fun e w' => e = .returned (.tuple #[]) ∧ w = w' := by
  go_enter Try.func12, Try.ntmps12
  go_wp2_with fail
  refine bodyPost_ret (results_none rfl _ _ _) rfl ?_
  exact ⟨rfl, rfl⟩
set_option maxHeartbeats 1000000 in
theorem cut_nil {w : World} (n : Bytes) (k : Int) :
    Calls Try.prog 17 #[.pointer none, .string (bs n), .int .i64 k] w fun e w' => e = .returned (.int .i64 2) ∧ Below w.heap.size w w' := by
  obtain ⟨w1, hw1⟩ : ∃ w1, w1 = (w.alloc (.cells #[.string (bs n)] 9)).alloc (.cells #[.int .i64 k] 3) := ⟨_, rfl⟩
  have hb1 : Below w.heap.size w w1 := by rw [hw1]; exact ((Below.refl _ w).alloc (Nat.le_refl _) _).alloc (by simp) _
  have HWR := Lib.hid (wrong_nil (.string (bs n)) (.int .i64 k) w1)
  have HW := Lib.hid hw1
  have HB1 := Lib.hid hb1
  clear hw1 hb1
  go_enter Try.func17, Try.ntmps17
  go_wp2_with fail
  rw [← HW.out]
  refine HWR.out.mono ?_
  rintro e w' ⟨rfl, rfl⟩
  go_wp2_with fail
  go_ret
  exact ⟨rfl, HB1.out⟩

set_option maxHeartbeats 1000000 in
theorem sync_dead {B d nb fb : Nat} {v : Value} {st : DS} {w : World} (h : Dsk B w d nb fb v st) (hd : st.dead = true) :
    Calls Try.prog 13 #[.pointer (some ⟨d, 0, none⟩)] w fun e w' => e = .returned (.int .i64 42) ∧ w = w' := by
  have q5 : w.cell? ⟨d, 5, none⟩ = some (.bool true) := by rw [← hd]; exact h.blk.cell 5
  clear h hd
  go_enter Try.func13, Try.ntmps13
  go_wp2_with fail
  go_ret
  exact ⟨rfl, rfl⟩
/-- not armed -/
theorem diesSt_calm {st : DS} (h : st.armed = 0) : diesSt st = st := by unfold diesSt; rw [if_neg (by omega)]
set_option maxHeartbeats 2000000 in
theorem sync_any {B d nb fb : Nat} {v : Value} {st : DS} {w : World} (h : Dsk B w d nb fb v st) (hd : st.dead = false) (ha : st.armed = 0) :
    Calls Try.prog 13 #[.pointer (some ⟨d, 0, none⟩)] w fun e w' => ∃ fb', e = .returned (.int .i64 0) ∧ Dsk B w' d nb fb' (.slice none 0 0) { st with firm := st.now, acts := [] } ∧ Below B w w' := by
  have hB : B ≤ w.heap.size := Nat.le_of_lt (Nat.lt_of_le_of_lt h.bd h.blk.lt)
  have q5 : w.cell? ⟨d, 5, none⟩ = some (.bool false) := by rw [← hd]; exact h.blk.cell 5
  have hdies := dies_any h (by rw [ha]; decide)
  rw [diesSt_calm ha, hd] at hdies
  have HD := Lib.hid hdies
  clear hdies hd h
  go_enter Try.func13, Try.ntmps13
  go_wp2_with fail
  refine HD.out.mono ?_
  rintro e w1 ⟨rfl, h1, hg1⟩
  have r1 : w1.cell? ⟨d, 1, none⟩ = some (.map (some nb)) := h1.blk.cell 1
  obtain ⟨w2, hw2⟩ : ∃ w2, w2 = w1.alloc (fobj st.now) := ⟨_, rfl⟩
  have hb2 : Below w1.heap.size w1 w2 := by rw [hw2]; exact (Below.refl _ _).alloc (Nat.le_refl _) _
  have hf2 : Fs w2 w1.heap.size st.now := by rw [hw2]; exact heap_alloc_new w1 _
  have hcl := clone_any nb st.now w1 h1.now
  rw [← hw2] at hcl
  have h2 := h1.later hb2
  have s2 := h2.blk.cell 2
  have s3 := h2.blk.cell 3
  have z2 := h2.blk.frozen 2
  have z3 := h2.blk.frozen 3
  simp at s2 s3
  have b3 := h2.blk.set_ 2 (.map (some w1.heap.size))
  have b4 := b3.set_ 3 (.slice none 0 0)
  have t3 := b3.cell 3
  have u3 := b3.frozen 3
  simp at t3
  have hg4 : w2.grownBy ((w2.setCell ⟨d, 2, none⟩ (.map (some w1.heap.size))).setCell ⟨d, 3, none⟩ (.slice none 0 0)) (some d) := gb_setCell (gb_setCell (gb_refl w2 _) (p := ⟨d, 2, none⟩) (.inl rfl) _) (p := ⟨d, 3, none⟩) (.inl rfl) _
  have hlt := h1.blk.lt
  have hnlt := h1.now.lt
  have h4 : Dsk B ((w2.setCell ⟨d, 2, none⟩ (.map (some w1.heap.size))).setCell ⟨d, 3, none⟩ (.slice none 0 0)) d nb w1.heap.size (.slice none 0 0) { st with firm := st.now, acts := [] } :=
    ⟨b4, h2.now.grown hg4 (fun e => h2.now.ne_blk h2.blk (by cases e; rfl)), hf2.grown hg4 (fun e => hf2.ne_blk h2.blk (by cases e; rfl)), by omega, Rowed.nil_ _ _, h2.bd, h2.bn, Nat.le_trans hB hg1.size⟩
  have H4 := Lib.hid h4
  have HB4 := Lib.hid ((((Below.refl B w).grown hg1 hB (fun k hk => by cases hk; exact h1.bd)).trans (hb2.mono (Nat.le_trans hB hg1.size))).grown hg4 (Nat.le_trans (Nat.le_trans hB hg1.size) hb2.size) (fun k hk => by cases hk; exact h1.bd))
  have HCL := Lib.hid hcl
  clear h4 hg4 b4 b3 h2 h1 hg1 hcl hf2 hb2 hw2 hlt hnlt
  go_wp2_with (go_at_call 23; refine HCL.out.mono ?_; rintro e w' ⟨rfl, hw'⟩; rw [hw']; clear hw')
  go_ret
  exact ⟨_, rfl, H4.out, HB4.out⟩
end Go.Proofs.Yticgcpbblefacaa
