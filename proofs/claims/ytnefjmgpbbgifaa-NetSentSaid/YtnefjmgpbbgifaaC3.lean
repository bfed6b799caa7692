/- The walks of Take and Twice. -/
import Derived.Test.YtnefjmgpbbgifaaC2
namespace Go.Proofs.Ytnefjmgpbbgifaa
open Go.RowKit
attribute [local go_sem] bs_size bs_getElem bs_list bs_append

theorem three {w : World} {B : Nat} {z0 z1 z2 : Value} (a b c : Value) (h : Blk w B 30 #[z0, z1, z2]) : Blk (((w.setCell ⟨B, 0, none⟩ a).setCell ⟨B, 1, none⟩ b).setCell ⟨B, 2, none⟩ c) B 30 #[a, b, c] := by
  have := Blk.set_ (Blk.set_ (Blk.set_ h 0 a) 1 b) 2 c
  simpa using this
theorem three_kp {S : Nat → Prop} {w w1 : World} (k : Keeps S w w1) (B : Nat) (a b c : Value) (hB : w.heap.size ≤ B) : Keeps S w (((w1.setCell ⟨B, 0, none⟩ a).setCell ⟨B, 1, none⟩ b).setCell ⟨B, 2, none⟩ c) :=
  kp_set (kp_set (kp_set k _ _ (fun h => absurd h (by simp; omega))) _ _ (fun h => absurd h (by simp; omega))) _ _ (fun h => absurd h (by simp; omega))
theorem three_kpS {S : Nat → Prop} {w w1 : World} (k : Keeps S w w1) (B : Nat) (a b c : Value) (hB : S B) : Keeps S w (((w1.setCell ⟨B, 0, none⟩ a).setCell ⟨B, 1, none⟩ b).setCell ⟨B, 2, none⟩ c) :=
  kp_set (kp_set (kp_set k _ _ (fun _ => hB)) _ _ (fun _ => hB)) _ _ (fun _ => hB)
theorem blk3 {w : World} {B : Nat} {a b c : Value} (h : Blk w B 30 #[a, b, c]) : w.cell? ⟨B, 0, none⟩ = some a ∧ w.cell? ⟨B, 1, none⟩ = some b ∧ w.cell? ⟨B, 2, none⟩ = some c :=
  ⟨h.cell 0, h.cell 1, h.cell 2⟩
theorem kp_empty {w w1 : World} (h : Keeps (fun _ => False) w w1) : Below w.heap.size w w1 := ⟨h.os, h.tape, h.output, h.size, fun i hi => h.block i hi (fun h => h)⟩

set_option maxRecDepth 100000 in
set_option maxHeartbeats 1600000 in
theorem take_bad (gN : Nat) (d s : Int) (v : Value) (ps : List Pk) (k : Int) (w : World) (hN : NetI w gN d s v ps) (hk : k < 0 ∨ (ps.length : Int) ≤ k) (hm : ps.length ≤ 1000000) :
    Calls Try.prog 14 #[.pointer (some ⟨gN, 0, none⟩), .int .i64 k] w fun e w' => e = .returned (.tuple #[pv pk0, .int .i64 1]) ∧ Below w.heap.size w w' := by
  have hb1 : Below w.heap.size w (w.alloc (.cells #[.int .i64 0, .int .i64 0, .string ⟨#[]⟩] 30)) := (Below.refl _ w).alloc (Nat.le_refl _) _
  have hN1 := hN.below hb1
  have hB1 := Blk.new w 30 #[.int .i64 0, .int .i64 0, .string ⟨#[]⟩]
  generalize hw1 : w.alloc (.cells #[.int .i64 0, .int .i64 0, .string ⟨#[]⟩] 30) = w1 at *
  have HW1 := Lib.hid hw1
  have HB1 := Lib.hid hb1
  have HN1 := Lib.hid hN1
  have HBl := Lib.hid hB1
  clear hN hN1 hb1 hB1 hw1
  unfold pv pk0
  go_enter Try.func14, Try.ntmps14
  go_wp2_with fail
  rw [HW1.out]
  refine (at_bad gN d s v ps k _ HN1.out hk hm).mono ?_
  rintro e w2 ⟨rfl, hb2⟩
  have hB2 := Blk.below HBl.out hb2 (Blk.lt HBl.out)
  have hB3 := Blk.alloc hB2 (.cells #[.int .i64 0, .int .i64 0, .string (bs [])] 30)
  have hk3 : Keeps (fun _ => False) w (w2.alloc (.cells #[.int .i64 0, .int .i64 0, .string (bs [])] 30)) := kp_alloc (kp_trans (kp_below HB1.out) (kp_below (S := fun _ => False) hb2) (fun _ _ h => h)) _
  have hf := fun i => Blk.frozen hB3 i
  obtain ⟨c0, c1, c2⟩ := blk3 hB3
  obtain ⟨d0, d1, d2⟩ := blk3 (Blk.new w2 30 #[.int .i64 0, .int .i64 0, .string (bs [])])
  obtain ⟨r0, r1, r2⟩ := blk3 (three (.int .i64 0) (.int .i64 0) (.string (bs [])) hB3)
  have hfin := kp_empty (three_kp hk3 w.heap.size (.int .i64 0) (.int .i64 0) (.string (bs [])) (Nat.le_refl _))
  have f0 := hf 0
  have f1 := hf 1
  have f2 := hf 2
  have HF := Lib.hid hfin
  clear hfin hf hB2 hB3 hk3 hb2
  unfold pv pk0
  go_wp2_with fail
  exact bodyPost_ret (v := .tuple #[.agg #[.int .i64 0, .int .i64 0, .string (bs [])], .int .i64 1]) (by simp [results, Try.results14, go_sem, r0, r1, r2]) rfl ⟨rfl, HF.out⟩

set_option maxRecDepth 100000 in
set_option maxHeartbeats 1600000 in
theorem take_ok (gN : Nat) (d s : Int) (v : Value) (ps : List Pk) (k : Nat) (w : World) (hN : NetI w gN d s v ps) (hk : k < ps.length) (hm : ps.length ≤ 1000000) :
    Calls Try.prog 14 #[.pointer (some ⟨gN, 0, none⟩), .int .i64 k] w fun e w' => ∃ v', e = .returned (.tuple #[pv ps[k], .int .i64 0]) ∧ NetI w' gN d s v' (ps.eraseIdx k) ∧ Keeps (NS gN v) w w' ∧ v'.ownBlock = v.ownBlock := by
  have hgl := hN.lt
  have hb1 : Below w.heap.size w (w.alloc (.cells #[.int .i64 0, .int .i64 0, .string ⟨#[]⟩] 30)) := (Below.refl _ w).alloc (Nat.le_refl _) _
  have hN1 := hN.below hb1
  have hB1 := Blk.new w 30 #[.int .i64 0, .int .i64 0, .string ⟨#[]⟩]
  have hvl : ∀ g, v.ownBlock = some g → g < w.heap.size := fun g hg => own_lt hN.own hg
  generalize hw1 : w.alloc (.cells #[.int .i64 0, .int .i64 0, .string ⟨#[]⟩] 30) = w1 at *
  have HW1 := Lib.hid hw1
  have HB1 := Lib.hid hb1
  have HN1 := Lib.hid hN1
  have HBl := Lib.hid hB1
  have HV := Lib.hid hvl
  obtain ⟨x, hx⟩ : ∃ x, ps[k] = x := ⟨_, rfl⟩
  have hat := at_ok gN d s v ps k _ hN1 hk hm
  rw [hx] at hat ⊢
  have HAt := Lib.hid hat
  clear hN hN1 hb1 hB1 hw1 hvl hat hx
  unfold pv
  go_enter Try.func14, Try.ntmps14
  go_wp2_with fail
  rw [HW1.out]
  refine HAt.out.mono ?_
  rintro e w2 ⟨rfl, hb2⟩
  have hN2 := HN1.out.below hb2
  have hB2 := Blk.below HBl.out hb2 (Blk.lt HBl.out)
  have hk2 : Keeps (fun _ => False) w w2 := kp_trans (kp_below HB1.out) (kp_below (S := fun _ => False) hb2) (fun _ _ h => h)
  clear hb2
  unfold pv
  have hb3 : Below w2.heap.size w2 (w2.alloc (.cells #[.int .i64 x.f, .int .i64 x.t, .string (bs x.d)] 30)) := (Below.refl _ w2).alloc (Nat.le_refl _) _
  have hN3 := hN2.below hb3
  have hB3 := Blk.alloc hB2 (.cells #[.int .i64 x.f, .int .i64 x.t, .string (bs x.d)] 30)
  have hP3 := Blk.new w2 30 #[.int .i64 x.f, .int .i64 x.t, .string (bs x.d)]
  have hk3 := kp_alloc hk2 (.cells #[.int .i64 x.f, .int .i64 x.t, .string (bs x.d)] 30)
  have hBP : w.heap.size < w2.heap.size := hB2.lt
  have hc1 := hN3.c1
  have hN3' := hN3
  obtain ⟨hblk3, hown3, hfar3⟩ := hN3'
  rcases hown3.2 with ⟨_, h0⟩ | ⟨g, cap, cur, rfl, _, hh, hle, hmx, hsz, htk⟩
  · omega
  have hgw : g < w.heap.size := HV.out g rfl
  have hgg : g ≠ gN := fun e => hfar3 (by rw [e]; rfl)
  have HD := Lib.hid (delete_any g cap cur ps k _ hh hsz hle (by unfold maxLen at hmx; omega) htk hk hm)
  have HN3 := Lib.hid hN3
  have HB3 := Lib.hid hB3
  have HP3 := Lib.hid hP3
  have HK3 := Lib.hid hk3
  clear hblk3 hown3 hfar3 hh htk hN3 hB3 hP3 hk3 hb3 hN2 hB2 hk2
  go_wp2_with fail
  refine HD.out.mono ?_
  rintro e w4 ⟨rfl, ho4, hg4⟩
  have hk4 := kp_trans (kp_mono (S := NS gN (.slice (some ⟨g, 0, none⟩) ps.length cap)) HK3.out (fun _ _ h => h.elim)) (kp_grown (S := fun i => i = g) hg4 (fun i h => by cases h; rfl)) (fun i _ h => Or.inr (by rw [h]; rfl))
  have hB4 := Blk.grown HB3.out hg4 (by intro h; cases h; omega)
  have hP4 := Blk.grown HP3.out hg4 (by intro h; cases h; omega)
  have hblk4 := Blk.grown HN3.out.blk hg4 (by intro h; cases h; exact hgg rfl)
  have hc4 : w4.cell? ⟨gN, 1, none⟩ = some _ := hblk4.cell 1
  have hf4 := hblk4.frozen 1
  obtain ⟨n1, hn1⟩ : ∃ n1, n1 = ps.length - 1 := ⟨_, rfl⟩
  have hVb : (Value.slice (some ⟨g, 0, none⟩) n1 cap).ownBlock = some g := rfl
  rw [← hn1] at ho4 ⊢
  have hblk5 := Blk.set_ hblk4 1 (.slice (some ⟨g, 0, none⟩) n1 cap)
  have ho5 := own_kp (w' := w4.setCell ⟨gN, 1, none⟩ (.slice (some ⟨g, 0, none⟩) n1 cap)) ho4 (kp_set (kp_refl (fun i => i = gN) w4) _ _ (fun _ => rfl)) (fun g' h => by rw [hVb] at h; cases h; exact hgg)
  have hN5 : NetI (w4.setCell ⟨gN, 1, none⟩ (.slice (some ⟨g, 0, none⟩) n1 cap)) gN d s (.slice (some ⟨g, 0, none⟩) n1 cap) (ps.eraseIdx k) := ⟨hblk5, by rw [List.length_eraseIdx_of_lt hk, ← hn1]; exact ho5, by rw [hVb]; simpa using hgg⟩
  have hB5 := Blk.far hB4 (p := ⟨gN, 1, none⟩) (by simp; omega) (.slice (some ⟨g, 0, none⟩) n1 cap)
  have hP5 := Blk.far hP4 (p := ⟨gN, 1, none⟩) (by simp; omega) (.slice (some ⟨g, 0, none⟩) n1 cap)
  have hk5 := kp_set hk4 ⟨gN, 1, none⟩ (.slice (some ⟨g, 0, none⟩) n1 cap) (fun _ => Or.inl rfl)
  obtain ⟨p0, p1, p2⟩ := blk3 hP5
  obtain ⟨p3, p4, p5⟩ := blk3 hP4
  obtain ⟨q3, q4, q5⟩ := blk3 hB4
  have f3 := hB4.frozen 0
  have f4 := hB4.frozen 1
  have f5 := hB4.frozen 2
  obtain ⟨q0, q1, q2⟩ := blk3 hB5
  have f0 := hB5.frozen 0
  have f1 := hB5.frozen 1
  have f2 := hB5.frozen 2
  obtain ⟨r0, r1, r2⟩ := blk3 (three (.int .i64 x.f) (.int .i64 x.t) (.string (bs x.d)) hB5)
  have hN6 := hN5.kp (three_kpS (S := fun i => i = w.heap.size) (kp_refl _ _) w.heap.size (.int .i64 x.f) (.int .i64 x.t) (.string (bs x.d)) rfl) (fun i hi h => by
    rcases h with h | h
    · omega
    · rw [hVb] at h; cases h; omega)
  have hk6 := three_kp hk5 w.heap.size (.int .i64 x.f) (.int .i64 x.t) (.string (bs x.d)) (Nat.le_refl _)
  have HN6 := Lib.hid hN6
  have HK6 := Lib.hid hk6
  have HVb := Lib.hid hVb
  have HN1' := Lib.hid hn1
  clear hn1 hN6 hk6 hVb hk5 hP5 hB5 hN5 ho5 hblk5 hblk4 hP4 hB4 hk4 hg4 ho4
  go_wp2_with fail
  exact bodyPost_ret (v := .tuple #[.agg #[.int .i64 x.f, .int .i64 x.t, .string (bs x.d)], .int .i64 0]) (by simp [results, Try.results14, go_sem, r0, r1, r2]) rfl ⟨_, rfl, HN6.out, HK6.out, rfl⟩
end Go.Proofs.Ytnefjmgpbbgifaa
