/- The document's net: Twice. -/
import Derived.Test.YtnefjmgpbbgifaaQ2
namespace Go.Proofs.Ytnefjmgpbbgifaa
open Go.RowKit
attribute [local go_sem] bs_size bs_getElem bs_list bs_append

set_option maxRecDepth 100000 in
set_option maxHeartbeats 1600000 in
theorem rtwice_bad (gR : Nat) (d s : Int) (v : Value) (ps : List Pk) (k : Int) (w : World) (hN : RefI w gR d s v ps) (hk : k < 0 ∨ (ps.length : Int) ≤ k) :
    Calls Try.prog 19 #[.pointer (some ⟨gR, 0, none⟩), .int .i64 k] w fun e w' => e = .returned (.int .i64 1) ∧ w = w' := by
  have hc := hN.c0
  obtain ⟨A, c, rfl, _⟩ := hN.slice
  clear hN
  by_cases h0 : k < 0
  · have e0 : decide (k < 0) = true := decide_eq_true h0
    go_enter Try.func19, Try.ntmps19
    go_wp2_with fail
    go_ret
    exact ⟨rfl, rfl⟩
  · have e0 : decide (k < 0) = false := decide_eq_false h0
    have e1 : decide (k ≥ (ps.length : Int)) = true := decide_eq_true (by omega)
    go_enter Try.func19, Try.ntmps19
    go_wp2_with fail
    go_ret
    exact ⟨rfl, rfl⟩

set_option maxRecDepth 100000 in
set_option maxHeartbeats 1600000 in
theorem rtwice_full (gR : Nat) (d s : Int) (v : Value) (ps : List Pk) (k : Nat) (w : World) (hN : RefI w gR d s v ps) (hk : k < ps.length) (hl : 500 ≤ ps.length) :
    Calls Try.prog 19 #[.pointer (some ⟨gR, 0, none⟩), .int .i64 k] w fun e w' => e = .returned (.int .i64 41) ∧ w = w' := by
  have hc := hN.c0
  obtain ⟨A, c, rfl, _⟩ := hN.slice
  clear hN
  have e0 : decide ((k : Int) < 0) = false := decide_eq_false (by omega)
  have e1 : decide ((k : Int) ≥ (ps.length : Int)) = false := decide_eq_false (by omega)
  have e7 : decide ((ps.length : Int) ≥ 500) = true := decide_eq_true (by omega)
  go_enter Try.func19, Try.ntmps19
  go_wp2_with fail
  go_ret
  exact ⟨rfl, rfl⟩

set_option maxRecDepth 100000 in
set_option maxHeartbeats 1600000 in
theorem rtwice_ok (gR : Nat) (d s : Int) (v : Value) (ps : List Pk) (k : Nat) (w : World) (hN : RefI w gR d s v ps) (hk : k < ps.length) (hl : ps.length < 500) :
    Calls Try.prog 19 #[.pointer (some ⟨gR, 0, none⟩), .int .i64 k] w fun e w' => ∃ v', e = .returned (.int .i64 0) ∧ RefI w' gR d s v' (ps ++ [ps[k]]) ∧ Keeps (NS gR v) w w' ∧ At w v v' := by
  obtain ⟨i0, hi0, hz0, hz1, hz2⟩ := info_parts info30
  obtain ⟨g, cap, hv, hgR, hgl, a0, a1, a2⟩ := hN.at hk
  have hgl2 := hN.lt
  have hcm : cap ≤ 9223372036854775807 := by
    obtain ⟨A, c, e, h⟩ := hN.slice
    rw [hv] at e
    cases e; have := h.2; unfold maxLen at this; omega
  generalize ps[k] = x at *
  have hc1 := hN.c0
  have hown := hN.own
  have hfar := hN.far
  have hf1 := hN.blk.frozen 0
  have hfin : ∀ w2 g cap, w2.ownsRow 0 30 3 (.slice (some ⟨g, 0, none⟩) (ps.length + 1) cap) (ps.length + 1) (pcs ps ++ [.int .i64 x.f, .int .i64 x.t, .string (bs x.d)]) → (w.alloc (.cells #[.int .i64 x.f, .int .i64 x.t, .string (bs x.d)] 30)).drew.grownBy w2 v.ownBlock → (v.ownBlock = some g ∨ g = w.heap.size + 1) →
      ∃ v', RefI (w2.setCell ⟨gR, 0, none⟩ (.slice (some ⟨g, 0, none⟩) (ps.length + 1) cap)) gR d s v' (ps ++ [x]) ∧ Keeps (NS gR v) w (w2.setCell ⟨gR, 0, none⟩ (.slice (some ⟨g, 0, none⟩) (ps.length + 1) cap)) ∧ At w v v' := by
    intro w2 g cap ho hg hat
    have hk1 : Keeps (NS gR v) w w2 := kp_trans (kp_below (((Below.refl _ w).alloc (Nat.le_refl _) _).drew)) (kp_grown (S := NS gR v) hg (fun i h => Or.inr h)) (fun _ _ h => h)
    have hk2 := kp_set hk1 ⟨gR, 0, none⟩ (.slice (some ⟨g, 0, none⟩) (ps.length + 1) cap) (fun _ => Or.inl rfl)
    have hgg : g ≠ gR := by
      rcases hat with h | h
      · rintro rfl; exact hfar h
      · omega
    have hblk : Blk w2 gR 45 #[v, .int .i64 s, .int .i64 d] := Blk.grown (Blk.drew (Blk.alloc hN.blk _)) hg (fun h => hfar h.symm)
    have hset := Blk.set_ hblk 0 (.slice (some ⟨g, 0, none⟩) (ps.length + 1) cap)
    refine ⟨_, ⟨hset, ?_, by simpa [Value.ownBlock] using hgg⟩, hk2, ?_⟩
    · have := own_kp (w' := w2.setCell ⟨gR, 0, none⟩ (.slice (some ⟨g, 0, none⟩) (ps.length + 1) cap)) ho (kp_set (kp_refl (fun i => i = gR) w2) _ _ (fun _ => rfl)) (fun g' h => by simp [Value.ownBlock] at h; omega)
      rw [pcs_append, show pcs [x] = [.int .i64 x.f, .int .i64 x.t, .string (bs x.d)] from by simp [pcs, pc]]
      simpa using this
    · intro q hq
      simp [Value.ownBlock] at hq
      subst hq
      rcases hat with h | h
      · exact .inl h
      · right; omega
  have HF := Lib.hid hfin
  have HV := Lib.hid hv
  rw [hv] at hc1
  clear hN hfin hv
  have e0 : decide ((k : Int) < 0) = false := decide_eq_false (by omega)
  have e1 : decide ((k : Int) ≥ (ps.length : Int)) = false := decide_eq_false (by omega)
  have e7 : decide ((ps.length : Int) ≥ 500) = false := decide_eq_false (by omega)
  go_enter Try.func19, Try.ntmps19
  go_wp2_with fail
  have ha1 := cell?_alloc_old hc1 (.cells #[.int .i64 x.f, .int .i64 x.t, .string (bs x.d)] 30)
  have hk2 : (k : Int) < (ps.length : Int) := by omega
  go_region_law (refine step_append_lies _ (by rfl) _ _ _ (by rfl) 0 30 i0 _ 3 32 Try.underlying22 hi0 hz0 hz1 hz2 rfl (by omega) v ps.length (pcs ps) (by first | rfl | exact HV.out.symm) ((hown.alloc _).drew) ⟨w.heap.size, 0, none⟩ 1 1 [.int .i64 x.f, .int .i64 x.t, .string (bs x.d)] (by rfl) (by rfl) (World.news_of_block (cs := #[.int .i64 x.f, .int .i64 x.t, .string (bs x.d)]) (t := 30) (fr := (0, 0)) (heap_alloc_new w _)) (by simp [Value.oneCell']) (by omega) (by simp [maxLen]; omega) (by omega) (by omega) (w.heap.size + 1) (by simp) ?_; intro gg cap w2 hown1 hgrow hat hlt; have hc2 : w2.cell? ⟨gR, 0, none⟩ = some _ := (by rw [hgrow.cell_far _ (by simp; omega) (Ne.symm hfar)]; exact cell?_alloc_old hc1 _); have hz2 : w2.frozen? ⟨gR, 0, none⟩ = false := (by rw [hgrow.frozen_far _ (by simp; omega) (Ne.symm hfar)]; exact frz_alloc hf1 (by omega) _))
  all_goals (obtain ⟨v', h⟩ := HF.out _ _ _ hown1 hgrow hat; have HE := Lib.hid h; clear h; go_wp2_with fail; go_ret; exact ⟨v', rfl, HE.out⟩)
end Go.Proofs.Ytnefjmgpbbgifaa
