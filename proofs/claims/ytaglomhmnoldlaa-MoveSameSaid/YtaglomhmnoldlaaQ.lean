/- slices.Insert of one element into a slice of one's own: in place, at the end, in a new row. -/
import Derived.Test.YtaglomhmnoldlaaTa
import Derived.Test.YtaglomhmnoldlaaCopyC
namespace Go.Proofs.Ytaglomhmnoldlaa
open Go.RowKit
attribute [local go_sem] bs_size bs_getElem bs_list bs_append

theorem hov45 (a b : Addr) (la ca lb cb : Nat) (w : World) (hne : a.block ≠ b.block) (tA tB : TypeId) (kA kB : Nat) (hsa : w.shape? a.block = some (tA, kA)) (hsb : w.shape? b.block = some (tB, kB)) (hkB : kB ≠ 0) (hfa : w.frozen? a = false) (hfe : w.frozen? { block := a.block, off := kA } = false) :
    (callFunc 81 #[.slice (some a) la ca, .slice (some b) lb cb]).run Try.prog w = .ok (.value (.bool false)) w := by
  have hz : ∀ w, (Go.sizeOf 38).run Try.prog w = .ok 7 w := fun w => by
    obtain ⟨i0, hi0, hz0, hz1, hz2⟩ := info_parts info37
    simp [sizeOf, typeInfo, hi0, hz1]
  rw [run_callFunc_extern Try.func81 (by kernel_rfl) (by kernel_rfl) (by kernel_rfl) (e := Extern.SlicesOverlaps.overlaps #[32, 32] #[4]) (by kernel_rfl),
    Lib.run_overlaps_apart w 32 4 38 Try.underlying32 7 hz a b la ca lb cb hne tA tB kA kB hsa hsb hkB hfa hfe]
  rfl

/-- what stands behind slices.Insert -/
def Inserted45 (B : Nat) (w : World) (v : Value) (n k : Nat) (cs vs : List Value) (e : Ending) (w' : World) : Prop :=
  ∃ v', e = .returned v' ∧ OwnC w' B 7 v' (n + 1) (cs.take (k * 7) ++ (vs ++ cs.drop (k * 7))) ∧ w.grownBy w' v.ownBlock ∧ (v'.ownBlock = v.ownBlock ∨ v'.ownBlock = some w.heap.size)

set_option maxHeartbeats 4000000 in
set_option maxRecDepth 100000 in
/-- at the end -/
theorem insert45_end (B : Nat) (v : Value) (n : Nat) (cs vs : List Value) (vb vc : Nat) (w : World) (hO : OwnC w B 7 v n cs) (hm : n ≤ 1000000) (hvl : vs.length = 7) (h1v : ∀ u ∈ vs, u.oneCell' = true)
    (hvs : ∀ j u, vs[j]? = some u → w.cell? ⟨vb, 0 + j, none⟩ = some u) (hB : B ≤ w.heap.size) :
    Calls Try.prog 66 #[v, .int .i64 n, .slice (some ⟨vb, 0, none⟩) 1 vc] w (Inserted45 B w v n n cs vs) := by
  obtain ⟨i0, hi0, hz0, hz1, hz2⟩ := info_parts info37
  have hsrc : Src Try.prog 7 32 (.slice (some ⟨vb, 0, none⟩) 1 vc) 1 vs w := Src.ofSlice w Try.underlying32 ⟨vb, 0, none⟩ 1 vc vs (by omega) (fun j u hj => by rw [Addr.add_lit]; exact hvs j u hj) h1v
  have hcl := hO.len
  have e1 : cs.take (n * 7) ++ (vs ++ cs.drop (n * 7)) = cs ++ vs := by rw [List.take_of_length_le (by omega), List.drop_eq_nil_of_le (by omega), List.append_nil]
  unfold Inserted45
  rw [e1]
  have HO := Lib.hid hO
  have HS := Lib.hid hsrc
  have HI := Lib.hid hi0
  have HZ0 := Lib.hid hz0
  have HZ1 := Lib.hid hz1
  have HZ2 := Lib.hid hz2
  have HB := Lib.hid hB
  rcases hO.2 with ⟨rfl, rfl⟩ | ⟨g, cap, rfl, hb, hlt, hnc, hcm, hs, hf, hx⟩
  · clear hsrc hi0 hz0 hz1 hz2 hB hvs h1v e1 hcl hO hvl
    go_enter Try.func66, Try.ntmps66
    go_wp2_with (at_builtin; refine wpList_append_C _ rfl (.tmp 23) (.tmp 24) 32 32 rfl 38 i0 (.agg #[.int .i64 0, .int .i64 0, .bool false, .int .i64 0, .int .i64 0, .string ⟨#[]⟩, .string ⟨#[]⟩]) 7 Try.underlying32 HI.out HZ0.out HZ1.out rfl (by decide) B _ 0 cs rfl HO.out (.slice (some ⟨vb, 0, none⟩) 1 vc) rfl 1 vs HS.out (by unfold maxLen; omega) (by rw [HZ2.out]; omega) HB.out ?_)
    intro v' w3 hown hgrow hat
    have H1 := Lib.hid hown
    have H2 := Lib.hid hgrow
    have H3 := Lib.hid hat
    clear hown hgrow hat
    go_wp2_with fail
    go_ret
    exact ⟨_, rfl, H1.out, H2.out, H3.out⟩
  · unfold maxLen at hcm
    clear hsrc hi0 hz0 hz1 hz2 hB hvs h1v e1 hcl hO hvl hs hf hx
    rcases Nat.lt_or_ge n cap with hc | hc
    · go_enter Try.func66, Try.ntmps66
      go_wp2_with (at_builtin; refine wpList_append_C _ rfl (.tmp 23) (.tmp 24) 32 32 rfl 38 i0 (.agg #[.int .i64 0, .int .i64 0, .bool false, .int .i64 0, .int .i64 0, .string ⟨#[]⟩, .string ⟨#[]⟩]) 7 Try.underlying32 HI.out HZ0.out HZ1.out rfl (by decide) B _ n cs rfl HO.out (.slice (some ⟨vb, 0, none⟩) 1 vc) rfl 1 vs HS.out (by unfold maxLen; omega) (by rw [HZ2.out]; omega) HB.out ?_)
      intro v' w3 hown hgrow hat
      have H1 := Lib.hid hown
      have H2 := Lib.hid hgrow
      have H3 := Lib.hid hat
      clear hown hgrow hat
      go_wp2_with fail
      go_ret
      exact ⟨_, rfl, H1.out, H2.out, H3.out⟩
    · obtain rfl : cap = n := by omega
      go_enter Try.func66, Try.ntmps66
      go_wp2_with (at_builtin; refine wpList_append_C _ rfl (.tmp 23) (.tmp 24) 32 32 rfl 38 i0 (.agg #[.int .i64 0, .int .i64 0, .bool false, .int .i64 0, .int .i64 0, .string ⟨#[]⟩, .string ⟨#[]⟩]) 7 Try.underlying32 HI.out HZ0.out HZ1.out rfl (by decide) B _ _ cs rfl HO.out (.slice (some ⟨vb, 0, none⟩) 1 vc) rfl 1 vs HS.out (by unfold maxLen; omega) (by rw [HZ2.out]; omega) HB.out ?_)
      intro v' w3 hown hgrow hat
      have H1 := Lib.hid hown
      have H2 := Lib.hid hgrow
      have H3 := Lib.hid hat
      clear hown hgrow hat
      go_wp2_with fail
      go_ret
      exact ⟨_, rfl, H1.out, H2.out, H3.out⟩

set_option maxHeartbeats 4000000 in
set_option maxRecDepth 100000 in
/-- within, with room -/
theorem insert45_shift (B g cap n k : Nat) (cs vs : List Value) (vb vc : Nat) (w : World) (hO : OwnC w B 7 (.slice (some ⟨g, 0, none⟩) n cap) n cs) (hm : n ≤ 1000000) (hk : k < n) (hroom : n + 1 ≤ cap) (hvl : vs.length = 7) (h1c : ∀ u ∈ cs, u.oneCell' = true) (h1v : ∀ u ∈ vs, u.oneCell' = true)
    (hvs : ∀ j u, vs[j]? = some u → w.cell? ⟨vb, 0 + j, none⟩ = some u) (hvb : vb ≠ g) (tA : TypeId) (kA : Nat) (hsa : w.shape? vb = some (tA, kA)) (hfa : w.frozen? ⟨vb, 0, none⟩ = false) (hfe : w.frozen? ⟨vb, kA, none⟩ = false) :
    Calls Try.prog 66 #[.slice (some ⟨g, 0, none⟩) n cap, .int .i64 k, .slice (some ⟨vb, 0, none⟩) 1 vc] w (Inserted45 B w (.slice (some ⟨g, 0, none⟩) n cap) n k cs vs) := by
  obtain ⟨i0, hi0, hz0, hz1, hz2⟩ := info_parts info37
  have hcl := hO.len
  rcases hO.2 with ⟨h, _⟩ | ⟨g', cap', he, hb, hlt, hnc, hcm, hs, hf, hx⟩
  · cases h
  obtain ⟨rfl, rfl⟩ : g = g' ∧ cap = cap' := by cases he; exact ⟨rfl, rfl⟩
  have hc63 : cap ≤ 9223372036854775807 := by unfold maxLen at hcm; omega
  have hcs : (n + 1) * 7 ≤ cap * 7 := Nat.mul_le_mul_right _ hroom
  obtain ⟨u0, hu0⟩ := Option.isSome_iff_exists.1 (hs 0 (by omega))
  obtain ⟨tB, kB, hsb, hkB⟩ := shape_of_cell hu0
  have hsz : (Try.prog.info? 38).map (·.size) = some 7 := by rw [hi0]; simp [hz1]
  have hov : ∀ lb cb, (callFunc 81 #[.slice (some ⟨vb, 0, none⟩) 1 vc, .slice (some ⟨g, (k + 1) * 7, none⟩) lb cb]).run Try.prog w = .ok (.value (.bool false)) w := fun lb cb => hov45 ⟨vb, 0, none⟩ ⟨g, (k + 1) * 7, none⟩ 1 vc lb cb w hvb tA tB kA kB hsa hsb hkB hfa hfe
  have hdl : (cs.drop (k * 7)).length = (n - k) * 7 := by rw [List.length_drop, hcl]; omega
  have hcp1 : ∀ ty dc sc, (Builtin.copy_ #[32, 32] ty #[.slice (some ⟨g, (k + 1) * 7, none⟩) (n + 1 - (k + 1)) dc, .slice (some ⟨g, k * 7, none⟩) (n + 1 - k) sc]).run Try.prog w.drew = .ok (goInt (Nat.min (n + 1 - k) (n + 1 - (k + 1)) : Nat)) (w.drew.setCells g ((k + 1) * 7) (cs.drop (k * 7))) := fun ty dc sc =>
    run_copy_wide w.drew _ _ ty 38 7 g ((k + 1) * 7) (n + 1 - (k + 1)) dc ⟨g, k * 7, none⟩ (n + 1 - k) sc (cs.drop (k * 7)) Try.underlying32 hsz (by rw [hdl]; simp only [Nat.min_def]; split <;> omega)
      (fun j v hj => by rw [Addr.add_lit]; exact hx _ v (by rwa [List.getElem?_drop] at hj))
      (fun j hj => hs _ (by omega)) (fun j hj => hf _ (by omega)) (fun v hv => h1c v (List.mem_of_mem_drop hv))
  obtain ⟨W1, hW1⟩ : ∃ W1, W1 = w.drew.setCells g ((k + 1) * 7) (cs.drop (k * 7)) := ⟨_, rfl⟩
  have hsp1 : ∀ j, j < cap * 7 → (W1.cell? ⟨g, j, none⟩).isSome = true := fun j hj => by
    rw [hW1]
    exact World.isSome_setCells g _ _ _ _ (hs j hj)
  have hcp2 : ∀ (W : World), (∀ x, W.cell? x = W1.cell? x) → (∀ x, W.frozen? x = W1.frozen? x) → ∀ ty dc, (Builtin.copy_ #[32, 32] ty #[.slice (some ⟨g, k * 7, none⟩) (n + 1 - k) dc, .slice (some ⟨vb, 0, none⟩) 1 vc]).run Try.prog W = .ok (goInt (Nat.min 1 (n + 1 - k) : Nat)) (W.setCells g (k * 7) vs) := fun W hWc hWf ty dc =>
    run_copy_wide W _ _ ty 38 7 g (k * 7) (n + 1 - k) dc ⟨vb, 0, none⟩ 1 vc vs Try.underlying32 hsz (by rw [hvl]; simp only [Nat.min_def]; split <;> omega)
      (fun j v hj => by
        rw [Addr.add_lit, hWc, hW1, World.cell?_setCells_out g _ _ _ _ (fun h _ => absurd h hvb)]
        exact hvs j v hj)
      (fun j hj => by rw [hWc]; exact hsp1 _ (by omega)) (fun j hj => by rw [hWf, hW1, World.frozen?_setCells]; exact hf _ (by omega)) h1v
  rw [← hW1] at hcp1
  have hfin := own_shift (w := w.drew) (B := B) hcl hvl (Nat.le_of_lt hk) hroom hb hlt hcm hs hf hx
  have HF := Lib.hid hfin
  have hw1 : IntKind.i64.wrap ((k : Int) + 1) = (k : Int) + 1 := by rw [IntKind.wrap_i64]; omega
  have hb1 : (0 : Int) ≤ (k : Int) + 1 := by omega
  have hin : k ≤ n := by omega
  have htn : ((k : Int) + 1).toNat = k + 1 := by omega
  have hb2 : ¬ (cap = k + 1) := by omega
  have hb3 : (k : Int) ≤ (n : Int) + 1 := by omega
  have hb4 : ¬ (cap = k) := by omega
  have hz2' : ¬ ((k : Int) = (n : Int)) := by omega
  clear hfin hx hs hf hsp1 hvs h1c h1v hdl hcl hu0 hsb hkB hi0 hz0 hz1 hz2 hO he hcs hsa hfa hfe hsz hvl
  clear hcm
  unfold Inserted45
  go_enter Try.func66, Try.ntmps66
  go_wp2_with (simp only [hov])
  go_region_law (refine step_copy_runC rfl (.tmp 73) (.tmp 76) 32 32 rfl (.slice (some ⟨g, (k + 1) * 7, none⟩) (n + 1 - (k + 1)) (cap - (k + 1))) (.slice (some ⟨g, k * 7, none⟩) (n + 1 - k) (cap - k)) (by simp [Act.eval, Act.put]) (by simp [Act.eval, Act.put]) (hcp1 _ _ _) ?_)
  go_wp2_with (at_builtin; refine wpList_copy_runC _ rfl _ _ 32 32 rfl _ _ rfl rfl (hcp2 _ (fun _ => rfl) (fun _ => rfl) _ _) ?_)
  go_ret
  exact ⟨_, rfl, HF.out.1, ⟨HF.out.2.os, HF.out.2.tape, HF.out.2.output, HF.out.2.size, HF.out.2.block⟩, .inl rfl⟩

set_option maxHeartbeats 4000000 in
set_option maxRecDepth 100000 in
/-- within, without room -/
theorem insert45_grow (B g cap n k : Nat) (cs vs : List Value) (vb vc : Nat) (w : World) (hO : OwnC w B 7 (.slice (some ⟨g, 0, none⟩) n cap) n cs) (hm : n ≤ 1000000) (hk : k < n) (hroom : cap < n + 1) (hvl : vs.length = 7) (h1c : ∀ u ∈ cs, u.oneCell' = true) (h1v : ∀ u ∈ vs, u.oneCell' = true)
    (hvs : ∀ j u, vs[j]? = some u → w.cell? ⟨vb, 0 + j, none⟩ = some u) (hB : B ≤ w.heap.size) :
    Calls Try.prog 66 #[.slice (some ⟨g, 0, none⟩) n cap, .int .i64 k, .slice (some ⟨vb, 0, none⟩) 1 vc] w (Inserted45 B w (.slice (some ⟨g, 0, none⟩) n cap) n k cs vs) := by
  obtain ⟨i0, hi0, hz0, hz1, hz2⟩ := info_parts info37
  have hcl := hO.len
  rcases hO.2 with ⟨h, _⟩ | ⟨g', cap', he, hb, hlt, hnc, hcm, hs, hf, hx⟩
  · cases h
  obtain ⟨rfl, rfl⟩ : g = g' ∧ cap = cap' := by cases he; exact ⟨rfl, rfl⟩
  obtain rfl : n = cap := by omega
  have hsz : (Try.prog.info? 38).map (·.size) = some 7 := by rw [hi0]; simp [hz1]
  have hvw : vb < w.heap.size := cell_lt (hvs 0 _ (List.getElem?_eq_getElem (by omega)))
  have hkk : (n : Int) + 1 - (k : Int) = ((n + 1 - k : Nat) : Int) := by omega
  have hik : k + (n + 1 - k) = n + 1 := by omega
  have hkl : k * 7 ≤ n * 7 := Nat.mul_le_mul_right _ (by omega)
  have htl : (cs.take (k * 7)).length = k * 7 := by rw [List.length_take, hcl]; omega
  have hold : (Builtin.firstCells i0.size k (.slice (some ⟨g, 0, none⟩) k n)).run Try.prog w.drew = .ok (cs.take (k * 7)).toArray w.drew := by
    rw [hz1]
    exact run_firstCells_some w.drew 7 k ⟨g, 0, none⟩ k n (cs.take (k * 7)) htl (fun j v hj => by
      rw [Addr.add_lit]
      rw [List.getElem?_take] at hj
      split at hj
      · rw [Nat.zero_add]; exact hx j v hj
      · cases hj)
  have hrz : ∀ ty, (Builtin.append_ #[32, 3] ty #[.slice (some ⟨g, 0, none⟩) k n, .int .i64 ((n : Int) + 1 - (k : Int))]).run Try.prog w =
      .ok (.slice (some ⟨w.heap.size, 0, none⟩) (n + 1) (grownCap w (n + 1) n 38)) (w.drew.alloc (.cells ((cs.take (k * 7)).toArray ++ Builtin.zeroCells (.agg #[.int .i64 0, .int .i64 0, .bool false, .int .i64 0, .int .i64 0, .string ⟨#[]⟩, .string ⟨#[]⟩] : Value).cells (n + 1 - k) ++ Builtin.zeroCells (.agg #[.int .i64 0, .int .i64 0, .bool false, .int .i64 0, .int .i64 0, .string ⟨#[]⟩, .string ⟨#[]⟩] : Value).cells (grownCap w (n + 1) n 38 - (n + 1))) 38)) := fun ty => by
    have h := Lib.run_append_grow_zeros w 32 3 ty 38 i0 _ .i64 .i64 Try.underlying32 Try.underlying3 hi0 hz0 (some ⟨g, 0, none⟩) k n (cs.take (k * 7)) hold (n + 1 - k) (by omega) (by omega) (by omega) (by omega) (by rw [hz2]; omega) (by rw [hz2, hik]; exact growslice_fits (by omega) (by omega))
    rw [hik] at h
    rw [hkk]
    exact h
  obtain ⟨G, hG⟩ : ∃ G, G = grownCap w (n + 1) n 38 := ⟨_, rfl⟩
  obtain ⟨ROW, hROW⟩ : ∃ ROW : Array Value, ROW = (cs.take (k * 7)).toArray ++ Builtin.zeroCells (.agg #[.int .i64 0, .int .i64 0, .bool false, .int .i64 0, .int .i64 0, .string ⟨#[]⟩, .string ⟨#[]⟩] : Value).cells (n + 1 - k) ++ Builtin.zeroCells (.agg #[.int .i64 0, .int .i64 0, .bool false, .int .i64 0, .int .i64 0, .string ⟨#[]⟩, .string ⟨#[]⟩] : Value).cells (G - (n + 1)) := ⟨_, rfl⟩
  rw [← hG] at hrz
  rw [← hROW] at hrz
  have hGn : n + 1 ≤ G := by rw [hG]; exact grownCap_ge w _ _ _
  have hGm : G ≤ maxLen := by rw [hG]; exact grownCap_le_maxLen w (n + 1) n 38 (by unfold maxLen; omega)
  have hG63 : G ≤ 9223372036854775807 := by unfold maxLen at hGm; omega
  have hzl : (.agg #[.int .i64 0, .int .i64 0, .bool false, .int .i64 0, .int .i64 0, .string ⟨#[]⟩, .string ⟨#[]⟩] : Value).cells.size = 7 := rfl
  have hRl : ROW.size = G * 7 := by
    rw [hROW]
    simp only [Array.size_append, List.size_toArray, size_zeroCells, hzl, htl]
    omega
  have hRx : ∀ j u, j < k * 7 → cs[j]? = some u → ROW[j]? = some u := fun j u hj hu => by
    rw [hROW, Array.append_assoc, Array.getElem?_append_left (by rw [List.size_toArray, htl]; exact hj)]
    simpa [List.getElem?_take_of_lt hj] using hu
  obtain ⟨W1, hW1⟩ : ∃ W1, W1 = w.drew.alloc (.cells ROW 38) := ⟨_, rfl⟩
  rw [← hW1] at hrz
  have hN0 : ∀ j, W1.cell? ⟨w.heap.size, j, none⟩ = ROW[j]? := fun j => by rw [hW1]; exact World.cell?_alloc_at (w := w.drew) ROW _ w.heap.size j rfl
  have hN : ∀ j, j < G * 7 → (W1.cell? ⟨w.heap.size, j, none⟩).isSome = true := fun j hj => by
    rw [hN0, Array.getElem?_eq_getElem (by omega)]; rfl
  have hNf : ∀ j, W1.frozen? ⟨w.heap.size, j, none⟩ = false := fun j => by rw [hW1]; exact World.frozen?_alloc_at (w := w.drew) ROW _ w.heap.size j rfl
  have hOb : ∀ j v, w.cell? ⟨g, j, none⟩ = some v → W1.cell? ⟨g, j, none⟩ = some v := fun j v h => by rw [hW1, World.cell?_alloc_past (w := w.drew) _ g j hlt]; exact h
  have hOv : ∀ j v, w.cell? ⟨vb, j, none⟩ = some v → W1.cell? ⟨vb, j, none⟩ = some v := fun j v h => by rw [hW1, World.cell?_alloc_past (w := w.drew) _ vb j hvw]; exact h
  have hk1 : (k + 1) * 7 = k * 7 + 7 := Nat.succ_mul _ _
  have hcs : (n + 1) * 7 ≤ G * 7 := Nat.mul_le_mul_right _ hGn
  have hcpA : ∀ (W : World), (∀ x, W.cell? x = W1.cell? x) → (∀ x, W.frozen? x = W1.frozen? x) → ∀ ty dc, (Builtin.copy_ #[32, 32] ty #[.slice (some ⟨w.heap.size, k * 7, none⟩) (n + 1 - k) dc, .slice (some ⟨vb, 0, none⟩) 1 vc]).run Try.prog W = .ok (goInt (Nat.min 1 (n + 1 - k) : Nat)) (W.setCells w.heap.size (k * 7) vs) := fun W hWc hWf ty dc =>
    run_copy_wide W _ _ ty 38 7 w.heap.size (k * 7) (n + 1 - k) dc ⟨vb, 0, none⟩ 1 vc vs Try.underlying32 hsz (by rw [hvl]; simp only [Nat.min_def]; split <;> omega)
      (fun j v hj => by rw [Addr.add_lit, hWc]; exact hOv _ v (hvs j v hj))
      (fun j hj => by rw [hWc]; exact hN _ (by omega)) (fun j hj => by rw [hWf]; exact hNf _) h1v
  have hGi : ¬ (G = k) := by omega
  have hGim : ¬ (G = k + 1) := by omega
  have hci : ¬ (n = k) := by omega
  have hbN : g ≠ w.heap.size := by omega
  have hdl : (cs.drop (k * 7)).length = (n - k) * 7 := by rw [List.length_drop, hcl]; omega
  have hcpB : ∀ (W : World), (∀ x, W.cell? x = (W1.setCells w.heap.size (k * 7) vs).cell? x) → (∀ x, W.frozen? x = (W1.setCells w.heap.size (k * 7) vs).frozen? x) → ∀ ty dc sc, (Builtin.copy_ #[32, 32] ty #[.slice (some ⟨w.heap.size, (k + 1) * 7, none⟩) (n + 1 - (k + 1)) dc, .slice (some ⟨g, k * 7, none⟩) (n - k) sc]).run Try.prog W = .ok (goInt (Nat.min (n - k) (n + 1 - (k + 1)) : Nat)) (W.setCells w.heap.size ((k + 1) * 7) (cs.drop (k * 7))) := fun W hWc hWf ty dc sc =>
    run_copy_wide W _ _ ty 38 7 w.heap.size ((k + 1) * 7) (n + 1 - (k + 1)) dc ⟨g, k * 7, none⟩ (n - k) sc (cs.drop (k * 7)) Try.underlying32 hsz (by rw [hdl]; simp only [Nat.min_def]; split <;> omega)
      (fun j v hj => by
        rw [Addr.add_lit, hWc, World.cell?_setCells_out _ _ _ _ _ (fun h _ => absurd h hbN)]
        exact hOb _ v (hx _ v (by rwa [List.getElem?_drop] at hj)))
      (fun j hj => by rw [hWc]; exact World.isSome_setCells _ _ _ _ _ (hN _ (by omega)))
      (fun j hj => by rw [hWf, World.frozen?_setCells]; exact hNf _) (fun v hv => h1c v (List.mem_of_mem_drop hv))
  have hfin := own_fresh (W := W1) (B := B) (g := w.heap.size) hcl hvl (Nat.le_of_lt hk) hGn hB (by rw [hW1]; exact (by simp : w.heap.size < (w.drew.alloc (.cells ROW 38)).heap.size)) hGm hN (fun j _ => hNf j) (fun j u hj hu => by rw [hN0]; exact hRx j u hj hu)
  have hgb : w.grownBy ((W1.setCells w.heap.size (k * 7) vs).setCells w.heap.size ((k + 1) * 7) (cs.drop (k * 7))) (some g) := by
    have h1 : Below w.heap.size w W1 := by rw [hW1]; exact ((Below.refl w.heap.size w).drew).alloc (Nat.le_refl _) _
    exact gb_of_below (h1.trans ⟨hfin.2.os, hfin.2.tape, hfin.2.output, hfin.2.size, fun i hi => hfin.2.block i (Nat.lt_of_lt_of_le hi h1.size) (fun e => by cases e; omega)⟩) _
  have HF : RowKit.Hid (OwnC (((w.alloc (.cells ROW 38)).drew.setCells w.heap.size (k * 7) vs).drew.setCells w.heap.size ((k + 1) * 7) (cs.drop (k * 7))) B 7 (.slice (some ⟨w.heap.size, 0, none⟩) (n + 1) G) (n + 1) (cs.take (k * 7) ++ (vs ++ cs.drop (k * 7))) ∧
      w.grownBy (((w.alloc (.cells ROW 38)).drew.setCells w.heap.size (k * 7) vs).drew.setCells w.heap.size ((k + 1) * 7) (cs.drop (k * 7))) (some g)) := by
    have he : (((w.alloc (.cells ROW 38)).drew.setCells w.heap.size (k * 7) vs).drew.setCells w.heap.size ((k + 1) * 7) (cs.drop (k * 7))).heap = ((W1.setCells w.heap.size (k * 7) vs).setCells w.heap.size ((k + 1) * 7) (cs.drop (k * 7))).heap :=
      heap_setCells_congr _ _ _ _ _ (heap_setCells_congr _ _ _ (w.alloc (.cells ROW 38)).drew _ (by rw [hW1]; rfl))
    refine show _ ∧ _ from ⟨hfin.1.heap_eq he, ⟨?_, ?_, ?_, by rw [he]; exact hgb.size, fun i hi hne => by rw [he]; exact hgb.block i hi hne⟩⟩
    · rw [os_setCellsC]; exact os_setCellsC _ _ _ _
    · rw [tape_setCellsC]; exact tape_setCellsC _ _ _ _
    · rw [out_setCellsC]; exact out_setCellsC _ _ _ _
  subst hW1
  have hE1 : ∀ x, ((w.alloc (.cells ROW 38)).drew).cell? x = (w.drew.alloc (.cells ROW 38)).cell? x := fun x => rfl
  have hE2 : ∀ x, ((w.alloc (.cells ROW 38)).drew).frozen? x = (w.drew.alloc (.cells ROW 38)).frozen? x := fun x => rfl
  have hF1 : ∀ x, (((w.alloc (.cells ROW 38)).drew.setCells w.heap.size (k * 7) vs).drew).cell? x = ((w.drew.alloc (.cells ROW 38)).setCells w.heap.size (k * 7) vs).cell? x := fun x => rfl
  have hF2 : ∀ x, (((w.alloc (.cells ROW 38)).drew.setCells w.heap.size (k * 7) vs).drew).frozen? x = ((w.drew.alloc (.cells ROW 38)).setCells w.heap.size (k * 7) vs).frozen? x := fun x => rfl
  have hw1 : IntKind.i64.wrap ((k : Int) + 1) = (k : Int) + 1 := by rw [IntKind.wrap_i64]; omega
  have hb1 : (0 : Int) ≤ (k : Int) + 1 := by omega
  have hin : k ≤ n := by omega
  have htn : ((k : Int) + 1).toNat = k + 1 := by omega
  have hb3 : (k : Int) ≤ (n : Int) := by omega
  have hz2' : ¬ ((k : Int) = (n : Int)) := by omega
  clear hkk hik hold hROW hG hRl hRx hN0 hN hNf hOb hOv hx hs hf hfin hgb hdl hcs hk1 htl hkl hvs h1c h1v hO he hi0 hz0 hz1 hz2 hsz hcl hvl hGm hcm hzl
  unfold Inserted45
  go_enter Try.func66, Try.ntmps66
  go_wp2_with (first
    | (at_builtin; refine Lib.wpList_append_run _ rfl _ _ _ _ rfl _ _ rfl rfl _ _ (hrz _) ?_)
    | (at_builtin; refine wpList_copy_runC _ rfl _ _ 32 32 rfl _ _ rfl rfl (hcpA _ hE1 hE2 _ _) ?_)
    | (at_builtin; refine wpList_copy_runC _ rfl _ _ 32 32 rfl _ _ rfl rfl (hcpB _ (fun _ => rfl) (fun _ => rfl) _ _ _) ?_))
  go_region_law (refine step_copy_runC rfl _ _ 32 32 rfl (.slice (some ⟨w.heap.size, (k + 1) * 7, none⟩) (n + 1 - (k + 1)) (G - (k + 1))) (.slice (some ⟨g, k * 7, none⟩) (n - k) (n - k)) (by simp [Act.eval, Act.put]) (by simp [Act.eval, Act.put]) (hcpB _ hF1 hF2 3 (G - (k + 1)) (n - k)) ?_)
  go_wp2
  go_ret
  exact ⟨_, rfl, HF.out.1, ⟨HF.out.2.os, HF.out.2.tape, HF.out.2.output, HF.out.2.size, HF.out.2.block⟩, .inr rfl⟩

/-- THE CONTRACT -/
theorem insert45_any (B : Nat) (v : Value) (n k : Nat) (cs vs : List Value) (vb vc : Nat) (w : World) (hO : OwnC w B 7 v n cs) (hm : n ≤ 1000000) (hk : k ≤ n) (hvl : vs.length = 7) (h1c : ∀ u ∈ cs, u.oneCell' = true) (h1v : ∀ u ∈ vs, u.oneCell' = true)
    (hV : Blk w vb 38 vs.toArray) (hvb : v.ownBlock ≠ some vb) (hB : B ≤ w.heap.size) :
    Calls Try.prog 66 #[v, .int .i64 k, .slice (some ⟨vb, 0, none⟩) 1 vc] w (Inserted45 B w v n k cs vs) := by
  have hvs : ∀ j u, vs[j]? = some u → w.cell? ⟨vb, 0 + j, none⟩ = some u := fun j u hu => by rw [Nat.zero_add, hV.cell]; simpa using hu
  rcases Nat.lt_or_ge k n with hlt | hge
  · have hO' := hO
    rcases hO.2 with ⟨rfl, rfl⟩ | ⟨g, cap, rfl, hb, hlt2, hnc, hcm, hs, hf, hx⟩
    · omega
    have hne : vb ≠ g := fun e => hvb (by rw [e]; rfl)
    rcases Nat.lt_or_ge n cap with hc | hc
    · exact insert45_shift B g cap n k cs vs vb vc w hO' hm hlt hc hvl h1c h1v hvs hne _ _ hV.shape (hV.frozen 0) (hV.frozen _)
    · exact insert45_grow B g cap n k cs vs vb vc w hO' hm hlt (by omega) hvl h1c h1v hvs hB
  · obtain rfl : k = n := by omega
    exact insert45_end B v k cs vs vb vc w hO hm hvl h1v hvs hB
end Go.Proofs.Ytaglomhmnoldlaa
