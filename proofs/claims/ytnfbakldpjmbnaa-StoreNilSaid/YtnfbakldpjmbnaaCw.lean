/- Collect, walked. -/
import Derived.Test.YtnfbakldpjmbnaaCo
namespace Go.Proofs.Ytnfbakldpjmbnaa
open Go.RowKit Fm
attribute [local go_sem] bs_size bs_getElem bs_list bs_append

theorem info49 (w : World) : (zeroValue 4).run Try.prog w = .ok (.bool false) w := Try.zeroValue4 w
/-- a look-up in an empty map of flags -/
theorem look_none {w : World} {b : Nat} (h : w.heap[b]? = some (.map #[] 0)) (k : Bytes) : (Instr.lookup 49 (.map (some b)) (.string (bs k)) false).run Try.prog w = .ok (.bool false) w := by
  have hf := find_key (P := Try.prog) (kt := 9) Try.underlying9 k w []
  have hc := check_key (P := Try.prog) (kt := 9) Try.underlying9 k true w
  simp only [fents, place, Option.map_none] at hf
  simp only [Instr.lookup, Sem.run_bind, run_underlying Try.underlying49, Go.MapKept.run_getObj_map h, Sem.run_pure, Result.andThen_ok, Array.isEmpty_empty, hc, hf, info49]
  simp

set_option maxHeartbeats 1000000 in
set_option maxRecDepth 100000 in
theorem used_blk {d : Nat} {w : World} {a b c : Value} {u : Int} (h : Blk w d 43 #[a, .int .i64 u, b, c]) : Calls Try.prog 11 #[.pointer (some ⟨d, 0, none⟩)] w fun e w' => e = .returned (.int .i64 u) ∧ w = w' := by
  have HL := Lib.hid (load_any d u w (h.cell 1))
  clear h
  go_enter Try.func11, Try.ntmps11
  go_wp2_with fail
  refine HL.out.mono ?_
  rintro e w' ⟨rfl, rfl⟩
  go_wp2_with fail
  go_ret
  exact ⟨rfl, rfl⟩
/-- all is forgotten -/
structure Gone (B : Nat) (w0 w : World) (d pb kb q R : Nat) : Prop where
  map : w.heap[pb]? = some (.map #[] 1)
  iter : w.heap[R]? = some (.mapIter (some pb) 1 #[0] 1)
  blk : Blk w d 43 #[.int .i64 (q : Nat), .int .i64 0, .map (some pb), .map (some kb)]
  below : Below B w0 w
theorem Gone.left {B d pb kb q R : Nat} {w0 w : World} (h : Gone B w0 w d pb kb q R) : w.rangeLeft pb R = 0 := by
  unfold World.rangeLeft
  rw [h.map, h.iter]
  simp [leftOf]
set_option maxHeartbeats 4000000 in
set_option maxRecDepth 100000 in
theorem collect_one {B d pb kb q : Nat} {w : World} {K x : Bytes} (h : StI B w d pb kb q x.length [(K, x)]) (hx : x.length ≤ 1000) (hBw : B ≤ w.heap.size) :
    Calls Try.prog 10 #[.pointer (some ⟨d, 0, none⟩)] w fun e w' => e = .returned (.int .i64 (x.length : Nat)) ∧ Below B w w' := by
  obtain ⟨w1, hw1⟩ : ∃ w1, w1 = w.alloc (.map #[] 0) := ⟨_, rfl⟩
  have hb1 : Below w.heap.size w w1 := by rw [hw1]; exact (Below.refl _ _).alloc (Nat.le_refl _) _
  have h1 := h.later hb1
  have hm1 := make49 w
  rw [← hw1] at hm1
  have hn1 : w1.heap[w.heap.size]? = some (.map #[] 0) := by rw [hw1]; exact heap_alloc_new w _
  have hs1 : w1.heap.size = w.heap.size + 1 := by rw [hw1]; simp
  have q3 : w1.cell? ⟨d, 3, none⟩ = some (.map (some kb)) := h1.blk.cell 3
  have hk1 : Fs w1 kb [] := h1.kept
  obtain ⟨w2, hr2, hg2, hb2⟩ := hk1.range (P := Try.prog) Try.underlying41
  have h2 := h1.later hb2
  have hi2 : w2.heap[w1.heap.size]? = some (.mapIter (some kb) 0 #[] 0) := by
    have := run_range_map (P := Try.prog) w1 41 _ _ kb _ _ Try.underlying41 hk1
    rw [hr2] at this
    cases this
    exact heap_alloc_new w1 _
  have hnx := fun ty => next_none (b := kb) (r := w1.heap.size) h2.kept hi2 (Nat.le_refl _) ty
  have HUS := Lib.hid (used_any h2)
  have H := Lib.hid h2
  have HW1 := Lib.hid hw1
  have HB2 := Lib.hid ((hb1.mono hBw).trans (hb2.mono (Nat.le_trans hBw hb1.size)))
  have HN := Lib.hid ((hb2.block w.heap.size (by omega)).trans hn1)
  clear h h1 h2 hw1 hb1 hb2 hn1 hk1 hg2 hi2 hs1
  go_enter Try.func10, Try.ntmps10
  go_wp2_with fail
  go_loopw [] (fun wr => wr = w2) (fun _ => 0)
  case atStart => exact rfl
  case round =>
    obtain rfl := hrel
    obtain ⟨w3, hr3, hg3, hb3⟩ := H.out.fs.range (P := Try.prog) Try.underlying40
    have q2 : wr.cell? ⟨d, 2, none⟩ = some (.map (some pb)) := H.out.blk.cell 2
    have h3 := H.out.later hb3
    have hi3 : w3.heap[wr.heap.size]? = some (.mapIter (some pb) 1 #[] 1) := by
      have := run_range_map (P := Try.prog) wr 40 _ _ pb _ _ Try.underlying40 H.out.fs
      rw [hr3] at this
      cases this
      exact heap_alloc_new wr _
    have hBr : B ≤ wr.heap.size := Nat.le_of_lt (Nat.lt_of_le_of_lt H.out.bd H.out.blk.lt)
    obtain ⟨R, hR⟩ : ∃ R, R = wr.heap.size := ⟨_, rfl⟩
    rw [← hR] at hi3 hr3
    have hRd : R ≠ d := fun e => by have := H.out.blk.lt; omega
    have hRp : R ≠ pb := fun e => by have := H.out.fs.lt; omega
    have hRn : R ≠ w.heap.size := fun e => by
      have := HN.out
      have hlt : w.heap.size < wr.heap.size := by
        rcases Nat.lt_or_ge w.heap.size wr.heap.size with hlt | hge
        · exact hlt
        · rw [Array.getElem?_eq_none hge] at this; cases this
      omega
    have hn3 : w3.heap[w.heap.size]? = some (.map #[] 0) := by
      refine (hb3.block _ ?_).trans HN.out
      rcases Nat.lt_or_ge w.heap.size wr.heap.size with hlt | hge
      · exact hlt
      · have := HN.out; rw [Array.getElem?_eq_none hge] at this; cases this
    have HB3 := Lib.hid (HB2.out.trans (hb3.mono hBr))
    have H3 := Lib.hid h3
    have HI3 := Lib.hid hi3
    have HN3 := Lib.hid hn3
    have HR := Lib.hid hR
    clear h3 hi3 hn3 hg3 hb3 hBr hR
    go_wp2_with fail
    refine HUS.out.mono ?_
    rintro e w' ⟨rfl, rfl⟩
    go_wp2_with fail
    have hl3 : w3.rangeLeft pb R = 1 := by
      unfold World.rangeLeft
      have hf := H3.out.fs
      unfold Fs fobj at hf
      rw [hf, HI3.out]
      simp only
      rw [← Array.length_toList, left_list]
      simp [fents]
    have HL3 := Lib.hid hl3
    clear hl3
    go_loopw [] (fun ws => ws = w3 ∨ Gone B w ws d pb kb q R) (fun ws => ws.rangeLeft pb R)
    case atStart => exact .inl rfl
    case round =>
      rcases hrel with rfl | hG
      · obtain ⟨w4, hr4, hf4, hi4, hg4, hen4⟩ := next_one H3.out.fs HI3.out 0
        have hn4 : w4.heap[w.heap.size]? = some (.map #[] 0) := by
          refine (hg4.block _ ?_ (fun e => hRn (by cases e; rfl))).trans HN3.out
          rcases Nat.lt_or_ge w.heap.size wr.heap.size with hlt | hge
          · exact hlt
          · have := HN3.out; rw [Array.getElem?_eq_none hge] at this; cases this
        have hlk := look_none hn4 K
        have b4 : Blk w4 d 43 #[.int .i64 (q : Nat), .int .i64 (x.length : Nat), .map (some pb), .map (some kb)] := H3.out.blk.grown hg4 (fun e => hRd (by cases e; rfl))
        have hadd := add_any d (x.length : Nat) (-(x.length : Int)) 0 w4 (b4.cell 1) (b4.frozen 1) (by unfold wrap64; omega)
        obtain ⟨w5, hw5⟩ : ∃ w5, w5 = w4.setCell ⟨d, 1, none⟩ (.int .i64 0) := ⟨_, rfl⟩
        rw [← hw5] at hadd
        have b5 : Blk w5 d 43 #[.int .i64 (q : Nat), .int .i64 0, .map (some pb), .map (some kb)] := by rw [hw5]; exact b4.set_ 1 _
        have hg5 : w4.grownBy w5 (some d) := by rw [hw5]; exact gb_setCell (gb_refl _ _) (p := ⟨d, 1, none⟩) (.inl rfl) _
        have hf5 : Fs w5 pb [(K, x)] := hf4.grown hg5 (fun e => hf4.ne_blk b4 (by cases e; rfl))
        have hRlt : R < w4.heap.size := by
          rcases Nat.lt_or_ge R w4.heap.size with hlt | hge
          · exact hlt
          · rw [Array.getElem?_eq_none hge] at hi4; cases hi4
        have hi5 : w5.heap[R]? = some (.mapIter (some pb) 1 #[0] 1) := (hg5.block R hRlt (fun e => hRd (by cases e; rfl))).trans hi4
        have q52 : w5.cell? ⟨d, 2, none⟩ = some (.map (some pb)) := b5.cell 2
        obtain ⟨w6, hr6, hm6, hg6⟩ := del_one hf5 0
        have hBr : B ≤ wr.heap.size := Nat.le_of_lt (Nat.lt_of_le_of_lt H3.out.bd H3.out.blk.lt)
        have hBR : B ≤ R := by
          rw [HR.out]
          exact Nat.le_of_lt (Nat.lt_of_le_of_lt H.out.bd H.out.blk.lt)
        have hG : Gone B w w6 d pb kb q R :=
          ⟨hm6, (hg6.block R (Nat.lt_of_lt_of_le hRlt hg5.size) (fun e => hRp (by cases e; rfl))).trans hi5, b5.grown hg6 (fun e => hf5.ne_blk b5 (by cases e; rfl)),
           ((HB3.out.grown hg4 hBr (fun k e => by cases e; exact hBR)).grown hg5 (Nat.le_trans hBr hg4.size) (fun k e => by cases e; exact H3.out.bd)).grown hg6 (Nat.le_trans (Nat.le_trans hBr hg4.size) hg5.size) (fun k e => by cases e; exact H3.out.bp)⟩
        have hneg : wrap64 (-(x.length : Int)) = -(x.length : Int) := by unfold wrap64; omega
        have q42 : w4.cell? ⟨d, 2, none⟩ = some (.map (some pb)) := b4.cell 2
        have HG := Lib.hid hG
        have HADD := Lib.hid hadd
        clear hG hadd hn4 b4 b5 hw5 hg5 hf5 hRlt hi5 hm6 hg6 hBr hBR hf4 hi4 hg4
        go_wp2_with fail
        refine HADD.out.mono ?_
        rintro e w' ⟨rfl, hw'⟩
        rw [hw']
        clear hw'
        go_wp2_with fail
        exact ⟨.inr HG.out, by rw [HG.out.left, HL3.out]; decide⟩
      · have hnx2 := fun ty => next_none hG.map hG.iter (Nat.le_refl _) ty
        have HUB := Lib.hid (used_blk hG.blk)
        have HGB := Lib.hid hG.below
        clear hG
        go_wp2_with fail
        refine HUB.out.mono ?_
        rintro e w' ⟨rfl, rfl⟩
        go_wp2_with fail
        go_ret
        exact ⟨rfl, HGB.out⟩
end Go.Proofs.Ytnfbakldpjmbnaa
