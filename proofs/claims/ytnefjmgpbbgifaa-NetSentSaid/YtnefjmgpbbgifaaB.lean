/- The walks of a net's small functions: New, device, lay, Send, Len, Sent. -/
import Derived.Test.YtnefjmgpbbgifaaA
namespace Go.Proofs.Ytnefjmgpbbgifaa
open Go.RowKit
attribute [local go_sem] bs_size bs_getElem bs_list bs_append

theorem info30 : (Try.prog.info? 30).map (fun i => (i.zero, i.size, i.bytes)) = some (some (.agg #[.int .i64 0, .int .i64 0, .string ⟨#[]⟩]), 3, 32) := by kernel_rfl

set_option maxHeartbeats 400000 in
theorem new_ok (d : Int) (h1 : 1 ≤ d) (h2 : d ≤ 15) (w : World) :
    Calls Try.prog 9 #[.int .i64 d] w fun e w' => ∃ gN, e = .returned (.tuple #[.pointer (some ⟨gN, 0, none⟩), .int .i64 0]) ∧ NetI w' gN d 0 (.slice none 0 0) [] ∧ Below w.heap.size w w' ∧ w.heap.size ≤ gN := by
  have hd1 : decide (d < 1) = false := decide_eq_false (by omega)
  have hd2 : decide (d > 15) = false := decide_eq_false (by omega)
  go_enter Try.func9, Try.ntmps9
  go_wp2_with fail
  refine bodyPost_ret (v := .tuple #[.pointer (some ⟨w.heap.size, 0, none⟩), .int .i64 0]) (by simp [results, Try.results9, go_sem]) rfl ?_
  refine ⟨_, rfl, ⟨Blk.new _ _ _, ⟨by simp [pcs], .inl ⟨rfl, rfl⟩⟩, by simp [Value.ownBlock]⟩, (Below.refl _ w).alloc (Nat.le_refl _) _, Nat.le_refl _⟩

set_option maxHeartbeats 400000 in
theorem new_bad (d : Int) (h : d < 1 ∨ 15 < d) (w : World) :
    Calls Try.prog 9 #[.int .i64 d] w fun e w' => e = .returned (.tuple #[.pointer none, .int .i64 1]) ∧ w = w' := by
  by_cases h1 : d < 1
  · have hd1 : decide (d < 1) = true := decide_eq_true h1
    go_enter Try.func9, Try.ntmps9
    go_wp2_with fail
    exact bodyPost_ret (v := .tuple #[.pointer none, .int .i64 1]) (by simp [results, Try.results9, go_sem]) rfl ⟨rfl, rfl⟩
  · have hd1 : decide (d < 1) = false := decide_eq_false (by omega)
    have hd2 : decide (d > 15) = true := decide_eq_true (by omega)
    go_enter Try.func9, Try.ntmps9
    go_wp2_with fail
    exact bodyPost_ret (v := .tuple #[.pointer none, .int .i64 1]) (by simp [results, Try.results9, go_sem]) rfl ⟨rfl, rfl⟩

set_option maxHeartbeats 400000 in
theorem device_is (gN : Nat) (d k : Int) (w : World) (hc : w.cell? ⟨gN, 0, none⟩ = some (.int .i64 d)) (r : Bool) (hr : decide (0 ≤ k ∧ k < d) = r) :
    Calls Try.prog 22 #[.pointer (some ⟨gN, 0, none⟩), .int .i64 k] w fun e w' => e = .returned (.bool r) ∧ w = w' := by
  subst hr
  by_cases h : 0 ≤ k
  · have h1 : decide (k ≥ 0) = true := decide_eq_true h
    have h2 : decide (0 ≤ k ∧ k < d) = decide (k < d) := by simp [h]
    rw [h2]
    clear h2
    go_enter Try.func22, Try.ntmps22
    go_wp2_with fail
    go_ret
    exact ⟨rfl, rfl⟩
  · have h1 : decide (k ≥ 0) = false := decide_eq_false h
    have h2 : decide (0 ≤ k ∧ k < d) = false := by simp [h]
    rw [h2]
    clear h2
    go_enter Try.func22, Try.ntmps22
    go_wp2_with fail
    go_ret
    exact ⟨rfl, rfl⟩

set_option maxHeartbeats 400000 in
theorem load_is (gN : Nat) (s : Int) (w : World) (hc : w.cell? ⟨gN, 2, none⟩ = some (.int .i64 s)) :
    Calls Try.prog 25 #[.pointer (some ⟨gN, 2, none⟩)] w fun e w' => e = .returned (.int .i64 s) ∧ w = w' := by
  have hl := run_call_load (P := Try.prog) Try.func31 (by kernel_rfl) (by kernel_rfl) (by kernel_rfl) .i64 (by kernel_rfl) hc
  go_enter Try.func25, Try.ntmps25
  go_wp2_with fail
  go_ret
  exact ⟨rfl, rfl⟩

set_option maxHeartbeats 400000 in
theorem add_is (gN : Nat) (s : Int) (h0 : 0 ≤ s) (h1 : s ≤ 1000000) (w : World) (hc : w.cell? ⟨gN, 2, none⟩ = some (.int .i64 s)) (hz : w.frozen? ⟨gN, 2, none⟩ = false) :
    Calls Try.prog 24 #[.pointer (some ⟨gN, 2, none⟩), .int .i64 1] w fun e w' => e = .returned (.int .i64 (s + 1)) ∧ w' = w.setCell ⟨gN, 2, none⟩ (.int .i64 (s + 1)) := by
  have hadd0 : (Op.intArith .add .i64 s 1).run Try.prog w = .ok (.int .i64 (s + 1)) w := by
    have e : IntKind.i64.wrap (s + 1) = s + 1 := by simp [IntKind.wrap, show IntKind.i64.bits = 64 from rfl, show IntKind.i64.signed = true from rfl]; omega
    simp [go_sem, e]
  have hadd := run_call_add (P := Try.prog) Try.func30 (by kernel_rfl) (by kernel_rfl) (by kernel_rfl) .i64 (by kernel_rfl) (y := 1) (s := s + 1) hc hz hadd0
  go_enter Try.func24, Try.ntmps24
  go_wp2_with fail
  go_ret
  exact ⟨rfl, rfl⟩

set_option maxHeartbeats 400000 in
theorem len_is (gN : Nat) (d s : Int) (v : Value) (ps : List Pk) (w : World) (hN : NetI w gN d s v ps) :
    Calls Try.prog 12 #[.pointer (some ⟨gN, 0, none⟩)] w fun e w' => e = .returned (.int .i64 ps.length) ∧ w = w' := by
  have hc := hN.c1
  obtain ⟨A, c, rfl⟩ := hN.slice
  go_enter Try.func12, Try.ntmps12
  go_wp2_with fail
  go_ret
  exact ⟨rfl, rfl⟩

set_option maxHeartbeats 400000 in
theorem sent_is (gN : Nat) (d s : Int) (v : Value) (ps : List Pk) (w : World) (hN : NetI w gN d s v ps) :
    Calls Try.prog 13 #[.pointer (some ⟨gN, 0, none⟩)] w fun e w' => e = .returned (.int .i64 s) ∧ w = w' := by
  have hc := hN.c2
  go_enter Try.func13, Try.ntmps13
  go_wp2_with fail
  refine (load_is gN s _ hc).mono ?_
  rintro e w' ⟨rfl, rfl⟩
  go_wp2_with fail
  go_ret
  exact ⟨rfl, rfl⟩

set_option maxHeartbeats 400000 in
theorem lay_full (gN : Nat) (d s : Int) (v : Value) (ps : List Pk) (x : Pk) (w : World) (hN : NetI w gN d s v ps) (hf : 500 ≤ ps.length) (hm : ps.length ≤ 1000000) :
    Calls Try.prog 23 #[.pointer (some ⟨gN, 0, none⟩), pv x] w fun e w' => e = .returned (.int .i64 41) ∧ Below w.heap.size w w' := by
  have hc := hN.c1
  have hl := hN.lt
  obtain ⟨A, c, rfl⟩ := hN.slice
  have hd : decide ((ps.length : Int) ≥ 500) = true := decide_eq_true (by omega)
  unfold pv
  go_enter Try.func23, Try.ntmps23
  go_wp2_with fail
  go_ret
  exact ⟨rfl, (Below.refl _ w).alloc (Nat.le_refl _) _⟩

theorem own_alloc {w : World} {v : Value} {n : Nat} {xs : List Value} (h : w.ownsRow 0 30 3 v n xs) (o : Obj) : (w.alloc o).ownsRow 0 30 3 v n xs :=
  own_kp h (kp_below (S := fun _ => False) ((Below.refl _ w).alloc (Nat.le_refl _) o)) (fun _ _ h => h)
theorem own_drew {w : World} {v : Value} {n : Nat} {xs : List Value} (h : w.ownsRow 0 30 3 v n xs) : w.drew.ownsRow 0 30 3 v n xs := h

theorem cell?_alloc_old {w : World} {g i : Nat} {u : Value} (h : w.cell? ⟨g, i, none⟩ = some u) (o : Obj) : (w.alloc o).cell? ⟨g, i, none⟩ = some u := by
  rw [World.cell?_alloc_past _ _ _ (cell_lt h)]; exact h
theorem frz_alloc {w : World} {g i : Nat} (h : w.frozen? ⟨g, i, none⟩ = false) (hg : g < w.heap.size) (o : Obj) : (w.alloc o).frozen? ⟨g, i, none⟩ = false := by
  rw [World.frozen?_alloc_past _ _ _ hg]; exact h

set_option maxRecDepth 100000 in
set_option maxHeartbeats 1600000 in
theorem lay_ok (gN : Nat) (d s : Int) (v : Value) (ps : List Pk) (x : Pk) (w : World) (hN : NetI w gN d s v ps) (hf : ps.length < 500) :
    Calls Try.prog 23 #[.pointer (some ⟨gN, 0, none⟩), pv x] w fun e w' => ∃ v', e = .returned (.int .i64 0) ∧ NetI w' gN d s v' (ps ++ [x]) ∧ Keeps (NS gN v) w w' ∧ (v'.ownBlock = v.ownBlock ∨ ∃ g, v'.ownBlock = some g ∧ w.heap.size ≤ g) := by
  obtain ⟨i0, hi0, hz0, hz1, hz2⟩ := info_parts info30
  have hc := hN.c1
  have hl := hN.lt
  have hfar := hN.far
  have hfrz := hN.blk.frozen 1
  obtain ⟨A, c, hv⟩ := hN.slice
  have hd : decide ((ps.length : Int) ≥ 500) = false := decide_eq_false (by omega)
  obtain ⟨w1, hw1⟩ : ∃ w1, w1 = w.alloc (.cells #[.int .i64 x.f, .int .i64 x.t, .string (bs x.d)] 30) := ⟨_, rfl⟩
  have hB : Blk w1 w.heap.size 30 #[.int .i64 x.f, .int .i64 x.t, .string (bs x.d)] := by rw [hw1]; exact Blk.new _ _ _
  have hN1 : NetI w1 gN d s v ps := by rw [hw1]; exact hN.below ((Below.refl _ w).alloc (Nat.le_refl _) _)
  have hb1 : Below w.heap.size w w1 := by rw [hw1]; exact (Below.refl _ w).alloc (Nat.le_refl _) _
  have hs1 : w1.heap.size ≤ w.heap.size + 1 := by rw [hw1]; simp
  have hs2 : w.heap.size + 1 ≤ w1.heap.size := by rw [hw1]; simp
  have hc1 := hN1.c1
  have hown := hN1.own
  have hf1 := hN1.blk.frozen 1
  have e0 := hB.cell 0
  have e1 := hB.cell 1
  have e2 := hB.cell 2
  simp only [List.getElem?_toArray, List.getElem?_cons_zero, List.getElem?_cons_succ] at e0 e1 e2
  have hvB : v.ownBlock ≠ some w.heap.size := fun h => by have := own_lt hN.own h; omega
  have hgB : gN ≠ w.heap.size := by omega
  have hfin : ∀ w2 g cap, w2.ownsRow 0 30 3 (.slice (some ⟨g, 0, none⟩) (ps.length + 1) cap) (ps.length + 1) (pcs ps ++ [.int .i64 x.f, .int .i64 x.t, .string (bs x.d)]) → (w1.alloc (.cells #[.int .i64 x.f, .int .i64 x.t, .string (bs x.d)] 30)).drew.grownBy w2 v.ownBlock → (v.ownBlock = some g ∨ g = w1.heap.size + 1) →
      ∃ v', Ending.returned (.int .i64 0) = .returned (.int .i64 0) ∧ NetI (w2.setCell ⟨gN, 1, none⟩ (.slice (some ⟨g, 0, none⟩) (ps.length + 1) cap)) gN d s v' (ps ++ [x]) ∧ Keeps (NS gN v) w (w2.setCell ⟨gN, 1, none⟩ (.slice (some ⟨g, 0, none⟩) (ps.length + 1) cap)) ∧ (v'.ownBlock = v.ownBlock ∨ ∃ g, v'.ownBlock = some g ∧ w.heap.size ≤ g) := by
    intro w2 g cap ho hg hat
    have hk1 : Keeps (NS gN v) w w2 := kp_trans (kp_below ((hb1.alloc (by omega) _).drew)) (kp_grown (S := NS gN v) hg (fun i h => Or.inr h)) (fun _ _ h => h)
    have hk2 := kp_set hk1 ⟨gN, 1, none⟩ (.slice (some ⟨g, 0, none⟩) (ps.length + 1) cap) (fun _ => Or.inl rfl)
    have hgg : g ≠ gN := by
      rcases hat with h | h
      · rintro rfl; exact hfar h
      · omega
    have hblk : Blk w2 gN 55 #[.int .i64 d, v, .int .i64 s] := Blk.grown (Blk.drew (Blk.alloc hN1.blk _)) hg (fun h => hfar h.symm)
    have hset := Blk.set_ hblk 1 (.slice (some ⟨g, 0, none⟩) (ps.length + 1) cap)
    refine ⟨_, rfl, ⟨hset, ?_, by simpa [Value.ownBlock] using hgg⟩, hk2, ?_⟩
    · have := own_kp (w' := w2.setCell ⟨gN, 1, none⟩ (.slice (some ⟨g, 0, none⟩) (ps.length + 1) cap)) ho (kp_set (kp_refl (fun i => i = gN) w2) _ _ (fun _ => rfl)) (fun g' h => by simp [Value.ownBlock] at h; omega)
      rw [pcs_append, show pcs [x] = [.int .i64 x.f, .int .i64 x.t, .string (bs x.d)] from by simp [pcs, pc]]
      simpa using this
    · rcases hat with h | h
      · left; rw [h]; rfl
      · right; exact ⟨g, rfl, by omega⟩
  have HF := Lib.hid hfin
  have HW := Lib.hid hw1
  have HV := Lib.hid hv
  rw [hv] at hc hc1
  clear hN hN1 hfin hv hb1 hB hw1
  unfold pv
  go_enter Try.func23, Try.ntmps23
  go_wp2_with fail
  rw [← HW.out]
  have ha1 := cell?_alloc_old hc1 (.cells #[.int .i64 x.f, .int .i64 x.t, .string (bs x.d)] 30)
  go_region_law (refine step_append_lies _ (by rfl) _ _ _ (by rfl) 0 30 i0 _ 3 32 Try.underlying22 hi0 hz0 hz1 hz2 rfl (by omega) v ps.length (pcs ps) (by first | rfl | exact HV.out.symm) ((hown.alloc _).drew) ⟨w1.heap.size, 0, none⟩ 1 1 [.int .i64 x.f, .int .i64 x.t, .string (bs x.d)] (by rfl) (by rfl) (World.news_of_block (cs := #[.int .i64 x.f, .int .i64 x.t, .string (bs x.d)]) (t := 30) (fr := (0, 0)) (heap_alloc_new w1 _)) (by simp [Value.oneCell']) (by omega) (by simp [maxLen]; omega) (by omega) (by omega) (w1.heap.size + 1) (by simp) ?_; intro gg cap w2 hown1 hgrow hat hlt; have hc2 : w2.cell? ⟨gN, 1, none⟩ = some (.slice A ps.length c) := (by rw [hgrow.cell_far _ (by simp; omega) (Ne.symm hfar)]; exact cell?_alloc_old hc1 _); have hz2 : w2.frozen? ⟨gN, 1, none⟩ = false := (by rw [hgrow.frozen_far _ (by simp; omega) (Ne.symm hfar)]; exact frz_alloc hf1 (by omega) _))
  all_goals (go_wp2_with fail; go_ret; obtain ⟨v', _, h⟩ := HF.out _ _ _ hown1 hgrow hat; exact ⟨v', rfl, h⟩)

/-- what Send answers -/
def sendCode (d : Int) (n : Nat) (x : Pk) : Int := if ¬ (0 ≤ x.f ∧ x.f < d) ∨ ¬ (0 ≤ x.t ∧ x.t < d) ∨ x.f = x.t then 1 else if x.d.length > 60000 then 40 else if 500 ≤ n then 41 else 0

set_option maxRecDepth 100000 in
set_option maxHeartbeats 1600000 in
theorem send_bad (gN : Nat) (d s : Int) (v : Value) (ps : List Pk) (x : Pk) (w : World) (hN : NetI w gN d s v ps) (h : ¬ (0 ≤ x.f ∧ x.f < d) ∨ ¬ (0 ≤ x.t ∧ x.t < d) ∨ x.f = x.t) :
    Calls Try.prog 11 #[.pointer (some ⟨gN, 0, none⟩), pv x] w fun e w' => e = .returned (.int .i64 1) ∧ Below w.heap.size w w' := by
  have hnot : ∀ (x : Bool) (w : World), (Op.unary .not (.bool x)).run Try.prog w = .ok (.bool (!x)) w := fun _ _ => rfl
  obtain ⟨w1, hw1⟩ : ∃ w1, w1 = w.alloc (.cells #[.int .i64 x.f, .int .i64 x.t, .string (bs x.d)] 30) := ⟨_, rfl⟩
  have hB : Blk w1 w.heap.size 30 #[.int .i64 x.f, .int .i64 x.t, .string (bs x.d)] := by rw [hw1]; exact Blk.new _ _ _
  have hc : w1.cell? ⟨gN, 0, none⟩ = some (.int .i64 d) := by rw [hw1]; exact cell?_alloc_old hN.c0 _
  have hb1 : Below w.heap.size w w1 := by rw [hw1]; exact (Below.refl _ w).alloc (Nat.le_refl _) _
  have e0 := hB.cell 0
  have e1 := hB.cell 1
  have e2 := hB.cell 2
  simp only [List.getElem?_toArray, List.getElem?_cons_zero, List.getElem?_cons_succ] at e0 e1 e2
  have HW := Lib.hid hw1
  clear hw1 hB hN
  unfold pv
  by_cases hf : 0 ≤ x.f ∧ x.f < d
  · by_cases ht : 0 ≤ x.t ∧ x.t < d
    · have heq : x.f = x.t := by
        rcases h with h | h | h
        · exact absurd hf h
        · exact absurd ht h
        · exact h
      have hq : (x.f == x.t) = true := by simp [heq]
      clear h heq
      go_enter Try.func11, Try.ntmps11
      go_wp2_with fail
      rw [← HW.out]
      refine (device_is gN d x.f _ hc true (decide_eq_true hf)).mono ?_
      rintro e w' ⟨rfl, rfl⟩
      go_wp2_with fail
      refine (device_is gN d x.t _ hc true (decide_eq_true ht)).mono ?_
      rintro e w' ⟨rfl, rfl⟩
      go_wp2_with fail
      go_ret
      exact ⟨rfl, hb1⟩
    · clear h
      go_enter Try.func11, Try.ntmps11
      go_wp2_with fail
      rw [← HW.out]
      refine (device_is gN d x.f _ hc true (decide_eq_true hf)).mono ?_
      rintro e w' ⟨rfl, rfl⟩
      go_wp2_with fail
      refine (device_is gN d x.t _ hc false (decide_eq_false ht)).mono ?_
      rintro e w' ⟨rfl, rfl⟩
      go_wp2_with fail
      go_ret
      exact ⟨rfl, hb1⟩
  · clear h
    go_enter Try.func11, Try.ntmps11
    go_wp2_with fail
    rw [← HW.out]
    refine (device_is gN d x.f _ hc false (decide_eq_false hf)).mono ?_
    rintro e w' ⟨rfl, rfl⟩
    go_wp2_with fail
    go_ret
    exact ⟨rfl, hb1⟩

set_option maxRecDepth 100000 in
set_option maxHeartbeats 1600000 in
/-- a packet between two devices of the net: the length, the room -/
theorem send_rest (gN : Nat) (d s : Int) (v : Value) (ps : List Pk) (x : Pk) (w : World) (hN : NetI w gN d s v ps) (hf : 0 ≤ x.f ∧ x.f < d) (ht : 0 ≤ x.t ∧ x.t < d) (hne : x.f ≠ x.t)
    (hs0 : 0 ≤ s) (hs1 : s ≤ 1000000) (hm : ps.length ≤ 1000000) (hx : x.d.length ≤ 9223372036854775807) :
    Calls Try.prog 11 #[.pointer (some ⟨gN, 0, none⟩), pv x] w fun e w' => ∃ v', e = .returned (.int .i64 (if x.d.length > 60000 then 40 else if 500 ≤ ps.length then 41 else 0)) ∧
      NetI w' gN d (if x.d.length > 60000 ∨ 500 ≤ ps.length then s else s + 1) v' (if x.d.length > 60000 ∨ 500 ≤ ps.length then ps else ps ++ [x]) ∧ Keeps (NS gN v) w w' ∧ (v'.ownBlock = v.ownBlock ∨ ∃ g, v'.ownBlock = some g ∧ w.heap.size ≤ g) := by
  have hnot : ∀ (x : Bool) (w : World), (Op.unary .not (.bool x)).run Try.prog w = .ok (.bool (!x)) w := fun _ _ => rfl
  obtain ⟨w1, hw1⟩ : ∃ w1, w1 = w.alloc (.cells #[.int .i64 x.f, .int .i64 x.t, .string (bs x.d)] 30) := ⟨_, rfl⟩
  have hB : Blk w1 w.heap.size 30 #[.int .i64 x.f, .int .i64 x.t, .string (bs x.d)] := by rw [hw1]; exact Blk.new _ _ _
  have hb1 : Below w.heap.size w w1 := by rw [hw1]; exact (Below.refl _ w).alloc (Nat.le_refl _) _
  have hN1 : NetI w1 gN d s v ps := hN.below hb1
  have hc := hN1.c0
  have e0 := hB.cell 0
  have e1 := hB.cell 1
  have e2 := hB.cell 2
  simp only [List.getElem?_toArray, List.getElem?_cons_zero, List.getElem?_cons_succ] at e0 e1 e2
  have HW := Lib.hid hw1
  have HN1 := Lib.hid hN1
  have HB1 := Lib.hid hb1
  have hq : (x.f == x.t) = false := by simp [hne]
  have hgl := hN.lt
  clear hw1 hB hN hN1 hb1 hne
  by_cases hl : x.d.length > 60000
  · have hd : decide ((x.d.length : Int) > 60000) = true := decide_eq_true (by omega)
    simp only [hl, if_true, true_or]
    unfold pv
    go_enter Try.func11, Try.ntmps11
    go_wp2_with fail
    rw [← HW.out]
    refine (device_is gN d x.f _ hc true (decide_eq_true hf)).mono ?_
    rintro e w' ⟨rfl, rfl⟩
    go_wp2_with fail
    refine (device_is gN d x.t _ hc true (decide_eq_true ht)).mono ?_
    rintro e w' ⟨rfl, rfl⟩
    go_wp2_with fail
    go_ret
    exact ⟨v, rfl, HN1.out, kp_below HB1.out, Or.inl rfl⟩
  · have hd : decide ((x.d.length : Int) > 60000) = false := decide_eq_false (by omega)
    simp only [hl, if_false, false_or]
    by_cases hfull : 500 ≤ ps.length
    · simp only [hfull, if_true]
      unfold pv
      go_enter Try.func11, Try.ntmps11
      go_wp2_with fail
      rw [← HW.out]
      refine (device_is gN d x.f _ hc true (decide_eq_true hf)).mono ?_
      rintro e w' ⟨rfl, rfl⟩
      go_wp2_with fail
      refine (device_is gN d x.t _ hc true (decide_eq_true ht)).mono ?_
      rintro e w' ⟨rfl, rfl⟩
      go_wp2_with fail
      refine (lay_full gN d s v ps x _ HN1.out hfull hm).mono ?_
      rintro e w2 ⟨rfl, hb2⟩
      have hN2 := HN1.out.below hb2
      have hb := HB1.out.trans (hb2.mono HB1.out.size)
      go_wp2_with fail
      go_ret
      exact ⟨v, rfl, hN2, kp_below hb, Or.inl rfl⟩
    · simp only [hfull, if_false]
      unfold pv
      go_enter Try.func11, Try.ntmps11
      go_wp2_with fail
      rw [← HW.out]
      refine (device_is gN d x.f _ hc true (decide_eq_true hf)).mono ?_
      rintro e w' ⟨rfl, rfl⟩
      go_wp2_with fail
      refine (device_is gN d x.t _ hc true (decide_eq_true ht)).mono ?_
      rintro e w' ⟨rfl, rfl⟩
      go_wp2_with fail
      refine (lay_ok gN d s v ps x _ HN1.out (by omega)).mono ?_
      rintro e w2 ⟨v', rfl, hN2, hk2, hv'⟩
      have hk := kp_trans (kp_below (S := NS gN v) HB1.out) hk2 (fun _ _ h => h)
      have hs' := HB1.out.size
      have hadd := add_is gN s hs0 hs1 _ hN2.c2 (hN2.blk.frozen 2)
      have hN3 : NetI (w2.setCell ⟨gN, 2, none⟩ (.int .i64 (s + 1))) gN d (s + 1) v' (ps ++ [x]) := ⟨Blk.set_ hN2.blk 2 _, own_kp hN2.own (kp_set (kp_refl (fun i => i = gN) w2) _ _ (fun _ => rfl)) (fun g hg h => hN2.far (by rw [hg, h])), hN2.far⟩
      have hk3 := kp_set hk ⟨gN, 2, none⟩ (.int .i64 (s + 1)) (fun _ => Or.inl rfl)
      have HN3 := Lib.hid hN3
      clear hN2 hN3
      go_wp2_with fail
      refine hadd.mono ?_
      rintro e w3 ⟨rfl, rfl⟩
      go_wp2_with fail
      go_ret
      refine ⟨v', rfl, HN3.out, hk3, ?_⟩
      rcases hv' with h | ⟨g, h, hg⟩
      · exact Or.inl h
      · exact Or.inr ⟨g, h, by omega⟩
end Go.Proofs.Ytnefjmgpbbgifaa
