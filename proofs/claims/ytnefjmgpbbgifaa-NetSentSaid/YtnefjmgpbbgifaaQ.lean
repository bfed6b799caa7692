/- The document's net: Send. -/
import Derived.Test.YtnefjmgpbbgifaaP
namespace Go.Proofs.Ytnefjmgpbbgifaa
open Go.RowKit
attribute [local go_sem] bs_size bs_getElem bs_list bs_append

theorem below_drewN {B : Nat} {w0 w : World} (h : Below B w0 w) (n : Nat) : Below B w0 (w.drewN n) := ⟨h.os, h.tape, h.output, h.size, h.block⟩

set_option maxRecDepth 100000 in
set_option maxHeartbeats 1600000 in
theorem rsend_bad (gR : Nat) (d s : Int) (v : Value) (ps : List Pk) (x : Pk) (w : World) (hN : RefI w gR d s v ps) (h : ¬ (0 ≤ x.f ∧ x.f < d) ∨ ¬ (0 ≤ x.t ∧ x.t < d) ∨ x.f = x.t) :
    Calls Try.prog 17 #[.pointer (some ⟨gR, 0, none⟩), pv x] w fun e w' => e = .returned (.int .i64 1) ∧ Below w.heap.size w w' := by
  obtain ⟨w1, hw1⟩ : ∃ w1, w1 = w.alloc (.cells #[.int .i64 x.f, .int .i64 x.t, .string (bs x.d)] 30) := ⟨_, rfl⟩
  have hB : Blk w1 w.heap.size 30 #[.int .i64 x.f, .int .i64 x.t, .string (bs x.d)] := by rw [hw1]; exact Blk.new _ _ _
  have hN1 : RefI w1 gR d s v ps := by rw [hw1]; exact hN.below ((Below.refl _ w).alloc (Nat.le_refl _) _)
  have hb1 : Below w.heap.size w w1 := by rw [hw1]; exact (Below.refl _ w).alloc (Nat.le_refl _) _
  have c0 := hB.cell 0
  have c1 := hB.cell 1
  have c2 := hB.cell 2
  simp only [List.getElem?_toArray, List.getElem?_cons_zero, List.getElem?_cons_succ] at c0 c1 c2
  have d0 := hN1.c2
  have HW := Lib.hid hw1
  have HB := Lib.hid hb1
  clear hN hN1 hB hw1 hb1
  unfold pv
  by_cases h1 : x.f < 0
  · have e1 : decide (x.f < 0) = true := decide_eq_true h1
    clear h
    go_enter Try.func17, Try.ntmps17
    go_wp2_with fail
    rw [← HW.out]
    go_quiet (fail)
    go_wp2_with fail
    go_ret
    exact ⟨rfl, below_drewN HB.out _⟩
  have e1 : decide (x.f < 0) = false := decide_eq_false h1
  by_cases h2 : x.f ≥ d
  · have e2 : decide (x.f ≥ d) = true := decide_eq_true h2
    clear h
    go_enter Try.func17, Try.ntmps17
    go_wp2_with fail
    rw [← HW.out]
    go_quiet (fail)
    go_wp2_with fail
    go_ret
    exact ⟨rfl, below_drewN HB.out _⟩
  have e2 : decide (x.f ≥ d) = false := decide_eq_false h2
  by_cases h3 : x.t < 0
  · have e3 : decide (x.t < 0) = true := decide_eq_true h3
    clear h
    go_enter Try.func17, Try.ntmps17
    go_wp2_with fail
    rw [← HW.out]
    go_quiet (fail)
    go_wp2_with fail
    go_ret
    exact ⟨rfl, below_drewN HB.out _⟩
  have e3 : decide (x.t < 0) = false := decide_eq_false h3
  by_cases h4 : x.t ≥ d
  · have e4 : decide (x.t ≥ d) = true := decide_eq_true h4
    clear h
    go_enter Try.func17, Try.ntmps17
    go_wp2_with fail
    rw [← HW.out]
    go_quiet (fail)
    go_wp2_with fail
    go_ret
    exact ⟨rfl, below_drewN HB.out _⟩
  have e4 : decide (x.t ≥ d) = false := decide_eq_false h4
  have h5 : x.f = x.t := by omega
  have e5 : (x.f == x.t) = true := by rw [h5]; exact beq_self_eq_true _
  clear h h5
  go_enter Try.func17, Try.ntmps17
  go_wp2_with fail
  rw [← HW.out]
  go_quiet (fail)
  go_wp2_with fail
  go_ret
  exact ⟨rfl, below_drewN HB.out _⟩

set_option maxRecDepth 100000 in
set_option maxHeartbeats 1600000 in
theorem rsend_no (gR : Nat) (d s : Int) (v : Value) (ps : List Pk) (x : Pk) (w : World) (hN : RefI w gR d s v ps) (hf : 0 ≤ x.f ∧ x.f < d) (ht : 0 ≤ x.t ∧ x.t < d) (hne : x.f ≠ x.t) (h : x.d.length > 60000 ∨ 500 ≤ ps.length) (hm : ps.length ≤ 1000000) :
    Calls Try.prog 17 #[.pointer (some ⟨gR, 0, none⟩), pv x] w fun e w' => e = .returned (.int .i64 (if x.d.length > 60000 then 40 else 41)) ∧ Below w.heap.size w w' := by
  obtain ⟨w1, hw1⟩ : ∃ w1, w1 = w.alloc (.cells #[.int .i64 x.f, .int .i64 x.t, .string (bs x.d)] 30) := ⟨_, rfl⟩
  have hB : Blk w1 w.heap.size 30 #[.int .i64 x.f, .int .i64 x.t, .string (bs x.d)] := by rw [hw1]; exact Blk.new _ _ _
  have hN1 : RefI w1 gR d s v ps := by rw [hw1]; exact hN.below ((Below.refl _ w).alloc (Nat.le_refl _) _)
  have hb1 : Below w.heap.size w w1 := by rw [hw1]; exact (Below.refl _ w).alloc (Nat.le_refl _) _
  have c0 := hB.cell 0
  have c1 := hB.cell 1
  have c2 := hB.cell 2
  simp only [List.getElem?_toArray, List.getElem?_cons_zero, List.getElem?_cons_succ] at c0 c1 c2
  have d0 := hN1.c2
  have d1 := hN1.c0
  obtain ⟨A, c, rfl, _⟩ := hN.slice
  have HW := Lib.hid hw1
  have HB := Lib.hid hb1
  clear hN hN1 hB hw1 hb1
  have e1 : decide (x.f < 0) = false := decide_eq_false (by omega)
  have e2 : decide (x.f ≥ d) = false := decide_eq_false (by omega)
  have e3 : decide (x.t < 0) = false := decide_eq_false (by omega)
  have e4 : decide (x.t ≥ d) = false := decide_eq_false (by omega)
  have e5 : (x.f == x.t) = false := beq_eq_false_iff_ne.2 hne
  unfold pv
  by_cases hb : x.d.length > 60000
  · have e6 : decide (((x.d.length : Nat) : Int) > 60000) = true := decide_eq_true (by omega)
    rw [if_pos hb]
    clear hf ht hne h hb
    go_enter Try.func17, Try.ntmps17
    go_wp2_with fail
    rw [← HW.out]
    go_quiet (fail)
    go_wp2_with fail
    go_ret
    exact ⟨rfl, below_drewN HB.out _⟩
  · have e6 : decide (((x.d.length : Nat) : Int) > 60000) = false := decide_eq_false (by omega)
    have e7 : decide ((ps.length : Int) ≥ 500) = true := decide_eq_true (by omega)
    rw [if_neg hb]
    clear hf ht hne h hb
    go_enter Try.func17, Try.ntmps17
    go_wp2_with fail
    rw [← HW.out]
    go_quiet (fail)
    go_wp2_with fail
    go_ret
    exact ⟨rfl, below_drewN HB.out _⟩

theorem incr (s : Int) (h0 : 0 ≤ s) (h1 : s ≤ 1000000) : wrap64 (s + 1) = s + 1 := by unfold wrap64; omega

set_option maxRecDepth 100000 in
set_option maxHeartbeats 1600000 in
theorem rsend_ok (gR : Nat) (d s : Int) (v : Value) (ps : List Pk) (x : Pk) (w : World) (hN : RefI w gR d s v ps) (hf : 0 ≤ x.f ∧ x.f < d) (ht : 0 ≤ x.t ∧ x.t < d) (hne : x.f ≠ x.t) (hb : ¬ x.d.length > 60000) (hl : ps.length < 500) (hs0 : 0 ≤ s) (hs1 : s ≤ 1000000) :
    Calls Try.prog 17 #[.pointer (some ⟨gR, 0, none⟩), pv x] w fun e w' => ∃ v', e = .returned (.int .i64 0) ∧ RefI w' gR d (s + 1) v' (ps ++ [x]) ∧ Keeps (NS gR v) w w' ∧ (v'.ownBlock = v.ownBlock ∨ ∃ g, v'.ownBlock = some g ∧ w.heap.size ≤ g) := by
  obtain ⟨i0, hi0, hz0, hz1, hz2⟩ := info_parts info30
  obtain ⟨w0, hw0⟩ : ∃ w0, w0 = w.alloc (.cells #[.int .i64 x.f, .int .i64 x.t, .string (bs x.d)] 30) := ⟨_, rfl⟩
  have hB0 : Blk w0 w.heap.size 30 #[.int .i64 x.f, .int .i64 x.t, .string (bs x.d)] := by rw [hw0]; exact Blk.new _ _ _
  have hN0 : RefI w0 gR d s v ps := by rw [hw0]; exact hN.below ((Below.refl _ w).alloc (Nat.le_refl _) _)
  have hb0 : Below w.heap.size w w0 := by rw [hw0]; exact (Below.refl _ w).alloc (Nat.le_refl _) _
  have hs : w.heap.size + 1 ≤ w0.heap.size ∧ w0.heap.size ≤ w.heap.size + 1 := by rw [hw0]; simp
  have c0 := hB0.cell 0
  have c1 := hB0.cell 1
  have c2 := hB0.cell 2
  simp only [List.getElem?_toArray, List.getElem?_cons_zero, List.getElem?_cons_succ] at c0 c1 c2
  have d0 := hN0.c2
  have d1 := hN0.c0
  obtain ⟨A, c, hv, _⟩ := hN.slice
  have hl0 := hN.lt
  have HV := Lib.hid hv
  have HW := Lib.hid hw0
  have HBl := Lib.hid hb0
  have HN0 := Lib.hid hN0
  have HB0 := Lib.hid hB0
  rw [hv] at d1
  have hvl : ∀ g, v.ownBlock = some g → g < w.heap.size := fun g hg => own_lt hN.own hg
  have HVL := Lib.hid hvl
  clear hN hN0 hB0 hw0 hb0 hv hvl
  have e1 : decide (x.f < 0) = false := decide_eq_false (by omega)
  have e2 : decide (x.f ≥ d) = false := decide_eq_false (by omega)
  have e3 : decide (x.t < 0) = false := decide_eq_false (by omega)
  have e4 : decide (x.t ≥ d) = false := decide_eq_false (by omega)
  have e5 : (x.f == x.t) = false := beq_eq_false_iff_ne.2 hne
  have e6 : decide (((x.d.length : Nat) : Int) > 60000) = false := decide_eq_false (by omega)
  have e7 : decide ((ps.length : Int) ≥ 500) = false := decide_eq_false (by omega)
  clear hf ht hne hb
  unfold pv
  go_enter Try.func17, Try.ntmps17
  go_wp2_with fail
  rw [← HW.out]
  go_quiet (fail)
  obtain ⟨w1, hw1⟩ : ∃ w1, w0.drewN nq = w1 := ⟨_, rfl⟩
  rw [hw1]
  have hB : Blk w1 w.heap.size 30 #[.int .i64 x.f, .int .i64 x.t, .string (bs x.d)] := by rw [← hw1]; exact HB0.out.drewN _
  have hN1 : RefI w1 gR d s v ps := by rw [← hw1]; exact HN0.out.below (below_drewN (Below.refl _ _) _)
  have hb1 : Below w.heap.size w w1 := by rw [← hw1]; exact below_drewN HBl.out _
  have hs1' : w1.heap.size ≤ w.heap.size + 1 ∧ w.heap.size + 1 ≤ w1.heap.size := by rw [← hw1]; show w0.heap.size ≤ _ ∧ _ ≤ w0.heap.size; omega
  have hc1 := hN1.c0
  have hown := hN1.own
  have hfar := hN1.far
  have hf1 := hN1.blk.frozen 0
  have q0 := hB.cell 0
  have q1 := hB.cell 1
  have q2 := hB.cell 2
  simp only [List.getElem?_toArray, List.getElem?_cons_zero, List.getElem?_cons_succ] at q0 q1 q2
  have hvB : v.ownBlock ≠ some w.heap.size := fun h => by have := HVL.out _ h; omega
  have hgB : gR ≠ w.heap.size := by omega
  have hgl : gR < w.heap.size := hl0
  have hfin : ∀ w2 g cap, w2.ownsRow 0 30 3 (.slice (some ⟨g, 0, none⟩) (ps.length + 1) cap) (ps.length + 1) (pcs ps ++ [.int .i64 x.f, .int .i64 x.t, .string (bs x.d)]) → (w1.alloc (.cells #[.int .i64 x.f, .int .i64 x.t, .string (bs x.d)] 30)).drew.grownBy w2 v.ownBlock → (v.ownBlock = some g ∨ g = w1.heap.size + 1) →
      Blk ((w2.setCell ⟨gR, 0, none⟩ (.slice (some ⟨g, 0, none⟩) (ps.length + 1) cap)).setCell ⟨gR, 1, none⟩ (.int .i64 (s + 1))) gR 45 #[.slice (some ⟨g, 0, none⟩) (ps.length + 1) cap, .int .i64 (s + 1), .int .i64 d] ∧ Blk (w2.setCell ⟨gR, 0, none⟩ (.slice (some ⟨g, 0, none⟩) (ps.length + 1) cap)) gR 45 #[.slice (some ⟨g, 0, none⟩) (ps.length + 1) cap, .int .i64 s, .int .i64 d] ∧
      ∃ v', RefI ((w2.setCell ⟨gR, 0, none⟩ (.slice (some ⟨g, 0, none⟩) (ps.length + 1) cap)).setCell ⟨gR, 1, none⟩ (.int .i64 (s + 1))) gR d (s + 1) v' (ps ++ [x]) ∧ Keeps (NS gR v) w ((w2.setCell ⟨gR, 0, none⟩ (.slice (some ⟨g, 0, none⟩) (ps.length + 1) cap)).setCell ⟨gR, 1, none⟩ (.int .i64 (s + 1))) ∧ (v'.ownBlock = v.ownBlock ∨ ∃ g, v'.ownBlock = some g ∧ w.heap.size ≤ g) := by
    intro w2 g cap ho hg hat
    have hk1 : Keeps (NS gR v) w w2 := kp_trans (kp_below ((hb1.alloc (by omega) _).drew)) (kp_grown (S := NS gR v) hg (fun i h => Or.inr h)) (fun _ _ h => h)
    have hk2 := kp_set (kp_set hk1 ⟨gR, 0, none⟩ (.slice (some ⟨g, 0, none⟩) (ps.length + 1) cap) (fun _ => Or.inl rfl)) ⟨gR, 1, none⟩ (.int .i64 (s + 1)) (fun _ => Or.inl rfl)
    have hgg : g ≠ gR := by
      rcases hat with h | h
      · rintro rfl; exact hfar h
      · omega
    have hblk : Blk w2 gR 45 #[v, .int .i64 s, .int .i64 d] := Blk.grown (Blk.drew (Blk.alloc hN1.blk _)) hg (fun h => hfar h.symm)
    have hset0 := Blk.set_ hblk 0 (.slice (some ⟨g, 0, none⟩) (ps.length + 1) cap)
    have hset := Blk.set_ hset0 1 (.int .i64 (s + 1))
    refine ⟨hset, hset0, _, ⟨hset, ?_, by simpa [Value.ownBlock] using hgg⟩, hk2, ?_⟩
    · have := own_kp (w' := (w2.setCell ⟨gR, 0, none⟩ (.slice (some ⟨g, 0, none⟩) (ps.length + 1) cap)).setCell ⟨gR, 1, none⟩ (.int .i64 (s + 1))) ho (kp_set (kp_set (kp_refl (fun i => i = gR) w2) _ _ (fun _ => rfl)) _ _ (fun _ => rfl)) (fun g' h => by simp [Value.ownBlock] at h; omega)
      rw [pcs_append, show pcs [x] = [.int .i64 x.f, .int .i64 x.t, .string (bs x.d)] from by simp [pcs, pc]]
      simpa using this
    · rcases hat with h | h
      · left; rw [h]; rfl
      · right; exact ⟨g, rfl, by omega⟩
  have HF := Lib.hid hfin
  rw [HV.out] at hc1
  clear hN1 hfin hb1 hB c0 c1 c2 d0 hw1 d1
  have d1 := hc1
  go_wp2_with fail
  have ha1 := cell?_alloc_old hc1 (.cells #[.int .i64 x.f, .int .i64 x.t, .string (bs x.d)] 30)
  go_region_law (refine step_append_lies _ (by rfl) _ _ _ (by rfl) 0 30 i0 _ 3 32 Try.underlying22 hi0 hz0 hz1 hz2 rfl (by omega) v ps.length (pcs ps) (by first | rfl | exact HV.out.symm) ((hown.alloc _).drew) ⟨w1.heap.size, 0, none⟩ 1 1 [.int .i64 x.f, .int .i64 x.t, .string (bs x.d)] (by rfl) (by rfl) (World.news_of_block (cs := #[.int .i64 x.f, .int .i64 x.t, .string (bs x.d)]) (t := 30) (fr := (0, 0)) (heap_alloc_new w1 _)) (by simp [Value.oneCell']) (by omega) (by simp [maxLen]; omega) (by omega) (by omega) (w1.heap.size + 1) (by simp) ?_; intro gg cap w2 hown1 hgrow hat hlt; have hc2 : w2.cell? ⟨gR, 0, none⟩ = some (.slice A ps.length c) := (by rw [hgrow.cell_far _ (by simp; omega) (Ne.symm hfar)]; exact cell?_alloc_old hc1 _); have hz2 : w2.frozen? ⟨gR, 0, none⟩ = false := (by rw [hgrow.frozen_far _ (by simp; omega) (Ne.symm hfar)]; exact frz_alloc hf1 (by omega) _))
  all_goals (obtain ⟨b1, b0, v', h⟩ := HF.out _ _ _ hown1 hgrow hat; have k1 := b0.cell 1; have k2 := b0.frozen 1; simp only [List.getElem?_toArray, List.getElem?_cons_zero, List.getElem?_cons_succ] at k1; have HE := Lib.hid h; have he := incr s hs0 hs1; clear b1 b0 h; go_wp2_with fail; go_ret; exact ⟨v', rfl, HE.out⟩)
end Go.Proofs.Ytnefjmgpbbgifaa
