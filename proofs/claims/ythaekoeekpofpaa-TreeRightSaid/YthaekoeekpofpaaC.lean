/- Find of both; some; trash. -/
import Derived.Test.YthaekoeekpofpaaB
namespace Go.Proofs.Ythaekoeekpofpaa
open Go.RowKit
attribute [local go_sem] bs_size bs_getElem bs_list bs_append

/-- seven cells written one by one -/
def put7 (w : World) (B : Nat) (x : Nd) : World := ((((((w.setCell ⟨B, 0, none⟩ (.int .i64 x.id.1)).setCell ⟨B, 1, none⟩ (.int .i64 x.id.2)).setCell ⟨B, 2, none⟩ (.bool x.dir)).setCell ⟨B, 3, none⟩ (.int .i64 x.par.1)).setCell ⟨B, 4, none⟩ (.int .i64 x.par.2)).setCell ⟨B, 5, none⟩ (.string (bs x.nm))).setCell ⟨B, 6, none⟩ (.string (bs x.mf))
theorem blk_put7 {w : World} {B : Nat} {y : Nd} (x : Nd) (h : Blk w B 37 (nc y).toArray) : Blk (put7 w B x) B 37 (nc x).toArray := by
  have := Blk.set_ (Blk.set_ (Blk.set_ (Blk.set_ (Blk.set_ (Blk.set_ (Blk.set_ h 0 (.int .i64 x.id.1)) 1 (.int .i64 x.id.2)) 2 (.bool x.dir)) 3 (.int .i64 x.par.1)) 4 (.int .i64 x.par.2)) 5 (.string (bs x.nm))) 6 (.string (bs x.mf))
  unfold put7
  simpa [nc] using this
theorem below_put7 {B0 : Nat} {w0 w : World} (h : Below B0 w0 w) {B : Nat} (hB : B0 ≤ B) (x : Nd) : Below B0 w0 (put7 w B x) :=
  ((((((h.setCell (p := ⟨B, 0, none⟩) hB _).setCell (p := ⟨B, 1, none⟩) hB _).setCell (p := ⟨B, 2, none⟩) hB _).setCell (p := ⟨B, 3, none⟩) hB _).setCell (p := ⟨B, 4, none⟩) hB _).setCell (p := ⟨B, 5, none⟩) hB _).setCell (p := ⟨B, 6, none⟩) hB _
theorem blk7 {w : World} {B : Nat} {x : Nd} (h : Blk w B 37 (nc x).toArray) : w.cell? ⟨B, 0, none⟩ = some (.int .i64 x.id.1) ∧ w.cell? ⟨B, 1, none⟩ = some (.int .i64 x.id.2) ∧ w.cell? ⟨B, 2, none⟩ = some (.bool x.dir) ∧ w.cell? ⟨B, 3, none⟩ = some (.int .i64 x.par.1) ∧ w.cell? ⟨B, 4, none⟩ = some (.int .i64 x.par.2) ∧ w.cell? ⟨B, 5, none⟩ = some (.string (bs x.nm)) ∧ w.cell? ⟨B, 6, none⟩ = some (.string (bs x.mf)) :=
  ⟨h.cell 0, h.cell 1, h.cell 2, h.cell 3, h.cell 4, h.cell 5, h.cell 6⟩

set_option maxRecDepth 100000 in
set_option maxHeartbeats 1600000 in
theorem find_any (s : St) (A : Option Addr) (n c : Nat) (xs : List Nd) (w : World) (hx : Nds w A n c xs) :
    Calls Try.prog 19 #[.slice A n c, sv s] w fun e w' => e = .returned (.tuple #[nv (findN s xs), .bool (hasN s xs)]) ∧ Below w.heap.size w w' := by
  have hn := hx.len
  have hmx := hx.max
  have hle := hx.le
  have hb1 : Below w.heap.size w (w.alloc (.cells #[.int .i64 s.1, .int .i64 s.2] 30)) := (Below.refl _ w).alloc (Nat.le_refl _) _
  have hB := Blk.new w 30 #[.int .i64 s.1, .int .i64 s.2]
  have q0 := hB.cell 0
  have q1 := hB.cell 1
  simp only [List.getElem?_toArray, List.getElem?_cons_zero, List.getElem?_cons_succ] at q0 q1
  have q0 := cell?_alloc_old q0 (.cells (nc nd0).toArray 37)
  have q1 := cell?_alloc_old q1 (.cells (nc nd0).toArray 37)
  have hb2 := hb1.alloc hb1.size (.cells (nc nd0).toArray 37)
  have hB2 := Blk.new (w.alloc (.cells #[.int .i64 s.1, .int .i64 s.2] 30)) 37 (nc nd0).toArray
  have hsz : (w.alloc (.cells #[.int .i64 s.1, .int .i64 s.2] 30)).heap.size = w.heap.size + 1 := Array.size_push _
  rw [hsz] at hB2
  have hx1 := hx.below hb2
  obtain ⟨w1, hw1⟩ : ∃ w1, w1 = (w.alloc (.cells #[.int .i64 s.1, .int .i64 s.2] 30)).alloc (.cells (nc nd0).toArray 37) := ⟨_, rfl⟩
  rw [← hw1] at hB2 hb2 hx1 q0 q1
  have HW := Lib.hid (show w1 = (w.alloc (.cells #[.int .i64 s.1, .int .i64 s.2] 30)).alloc (.cells #[.int .i64 0, .int .i64 0, .bool false, .int .i64 0, .int .i64 0, .string ⟨#[]⟩, .string ⟨#[]⟩] 37) from hw1)
  have HX := Lib.hid hx1
  have HB := Lib.hid hb2
  have HB2 := Lib.hid hB2
  have HP := Lib.hid (place_any s A n c xs w1 hx1)
  clear hw1 hx1 hb1 hB hx hb2 hB2 hsz
  unfold sv at *
  rcases firstI_cases (isId s) xs with ⟨k, hk, hfk, hp⟩ | ⟨hfk, hall⟩
  · obtain ⟨e1, e2⟩ := find_at hk hfk
    rw [e1, e2]
    rw [hfk] at HP
    obtain ⟨x, hxk⟩ : ∃ x, x = xs[k] := ⟨_, rfl⟩
    rw [← hxk]
    have HXK := Lib.hid hxk
    have hki : (k : Int) < (n : Int) := by omega
    have hkd : decide ((k : Int) ≥ 0) = true := decide_eq_true (by omega)
    clear e1 e2 hfk hp hxk
    go_enter Try.func19, Try.ntmps19
    go_wp2_with fail
    rw [← HW.out]
    refine HP.out.mono ?_
    rintro e w2 ⟨rfl, hb2⟩
    have hbw := HB.out.trans (hb2.mono HB.out.size)
    have hB2 := Blk.below HB2.out hb2 (Blk.lt HB2.out)
    have hx2 := HX.out.below hb2
    have hf := fun i => Blk.frozen hB2 i
    have f0 := hf 0
    have f1 := hf 1
    have f2 := hf 2
    have f3 := hf 3
    have f4 := hf 4
    have f5 := hf 5
    have f6 := hf 6
    obtain ⟨g0, g1, g2, g3, g4, g5, g6⟩ := blk7 hB2
    have hfin := below_put7 hbw (Nat.le_succ w.heap.size) x
    have r := blk7 (blk_put7 x hB2)
    obtain ⟨b, off, rfl, hbl, c0, c1, c2, c3, c4, c5, c6, _⟩ := Nds.at_ hx2 hk
    rw [← HXK.out] at c0 c1 c2 c3 c4 c5 c6
    unfold put7 at hfin r
    obtain ⟨r0, r1, r2, r3, r4, r5, r6⟩ := r
    have HF := Lib.hid hfin
    clear hfin hf hB2 hb2 hbw hx2
    go_wp2_with fail
    exact bodyPost_ret (v := .tuple #[nv x, .bool true]) (by simp [results, Try.results19, go_sem, nv, r0, r1, r2, r3, r4, r5, r6]) rfl ⟨rfl, HF.out⟩
  · obtain ⟨e1, e2⟩ := find_no hfk
    rw [e1, e2]
    rw [hfk] at HP
    clear e1 e2 hfk hall
    go_enter Try.func19, Try.ntmps19
    go_wp2_with fail
    rw [← HW.out]
    refine HP.out.mono ?_
    rintro e w2 ⟨rfl, hb2⟩
    have hbw := HB.out.trans (hb2.mono HB.out.size)
    have hB2 := Blk.below HB2.out hb2 (Blk.lt HB2.out)
    have hf := fun i => Blk.frozen hB2 i
    have f0 := hf 0
    have f1 := hf 1
    have f2 := hf 2
    have f3 := hf 3
    have f4 := hf 4
    have f5 := hf 5
    have f6 := hf 6
    obtain ⟨g0, g1, g2, g3, g4, g5, g6⟩ := blk7 hB2
    have hfin := below_put7 hbw (Nat.le_succ w.heap.size) nd0
    have r := blk7 (blk_put7 nd0 hB2)
    unfold put7 nd0 at hfin r
    obtain ⟨r0, r1, r2, r3, r4, r5, r6⟩ := r
    have HF := Lib.hid hfin
    have he : (bs [] : ByteArray) = ⟨#[]⟩ := rfl
    simp only [he] at r0 r1 r2 r3 r4 r5 r6
    have HF := Lib.hid HF.out
    clear hfin hf hB2 hb2 hbw
    go_wp2_with fail
    exact bodyPost_ret (v := .tuple #[nv nd0, .bool false]) (by simp [results, Try.results19, go_sem, nv, nd0, r0, r1, r2, r3, r4, r5, r6]; rfl) rfl ⟨rfl, HF.out⟩

set_option maxRecDepth 100000 in
set_option maxHeartbeats 1600000 in
theorem rfind_any (s : St) (A : Option Addr) (n c : Nat) (xs : List Nd) (w : World) (hx : Nds w A n c xs) :
    Calls Try.prog 20 #[.slice A n c, sv s] w fun e w' => e = .returned (.tuple #[nv (findN s xs), .bool (hasN s xs)]) ∧ Below w.heap.size w w' := by
  have hn := hx.len
  have hmx := hx.max
  have hle := hx.le
  have hb1 : Below w.heap.size w (w.alloc (.cells #[.int .i64 s.1, .int .i64 s.2] 30)) := (Below.refl _ w).alloc (Nat.le_refl _) _
  have hB := Blk.new w 30 #[.int .i64 s.1, .int .i64 s.2]
  have q0 := hB.cell 0
  have q1 := hB.cell 1
  simp only [List.getElem?_toArray, List.getElem?_cons_zero, List.getElem?_cons_succ] at q0 q1
  have q0 := cell?_alloc_old q0 (.cells (nc nd0).toArray 37)
  have q1 := cell?_alloc_old q1 (.cells (nc nd0).toArray 37)
  have hb2 := hb1.alloc hb1.size (.cells (nc nd0).toArray 37)
  have hB2 := Blk.new (w.alloc (.cells #[.int .i64 s.1, .int .i64 s.2] 30)) 37 (nc nd0).toArray
  have hsz : (w.alloc (.cells #[.int .i64 s.1, .int .i64 s.2] 30)).heap.size = w.heap.size + 1 := Array.size_push _
  rw [hsz] at hB2
  have hx1 := hx.below hb2
  obtain ⟨w1, hw1⟩ : ∃ w1, w1 = (w.alloc (.cells #[.int .i64 s.1, .int .i64 s.2] 30)).alloc (.cells (nc nd0).toArray 37) := ⟨_, rfl⟩
  rw [← hw1] at hB2 hb2 hx1 q0 q1
  have HW := Lib.hid (show w1 = (w.alloc (.cells #[.int .i64 s.1, .int .i64 s.2] 30)).alloc (.cells #[.int .i64 0, .int .i64 0, .bool false, .int .i64 0, .int .i64 0, .string ⟨#[]⟩, .string ⟨#[]⟩] 37) from hw1)
  have HX := Lib.hid hx1
  have HB := Lib.hid hb2
  have HB2 := Lib.hid hB2
  have HP := Lib.hid (at_any s A n c xs w1 hx1)
  clear hw1 hx1 hb1 hB hx hb2 hB2 hsz
  unfold sv at *
  rcases firstI_cases (isId s) xs with ⟨k, hk, hfk, hp⟩ | ⟨hfk, hall⟩
  · obtain ⟨e1, e2⟩ := find_at hk hfk
    rw [e1, e2]
    rw [hfk] at HP
    obtain ⟨x, hxk⟩ : ∃ x, x = xs[k] := ⟨_, rfl⟩
    rw [← hxk]
    have HXK := Lib.hid hxk
    have hki : (k : Int) < (n : Int) := by omega
    have hkd : decide ((k : Int) < 0) = false := decide_eq_false (by omega)
    clear e1 e2 hfk hp hxk
    go_enter Try.func20, Try.ntmps20
    go_wp2_with fail
    rw [← HW.out]
    refine HP.out.mono ?_
    rintro e w2 ⟨rfl, hb2⟩
    have hbw := HB.out.trans (hb2.mono HB.out.size)
    have hB2 := Blk.below HB2.out hb2 (Blk.lt HB2.out)
    have hx2 := HX.out.below hb2
    have hf := fun i => Blk.frozen hB2 i
    have f0 := hf 0
    have f1 := hf 1
    have f2 := hf 2
    have f3 := hf 3
    have f4 := hf 4
    have f5 := hf 5
    have f6 := hf 6
    obtain ⟨g0, g1, g2, g3, g4, g5, g6⟩ := blk7 hB2
    have hfin := below_put7 hbw (Nat.le_succ w.heap.size) x
    have r := blk7 (blk_put7 x hB2)
    obtain ⟨b, off, rfl, hbl, c0, c1, c2, c3, c4, c5, c6, _⟩ := Nds.at_ hx2 hk
    rw [← HXK.out] at c0 c1 c2 c3 c4 c5 c6
    unfold put7 at hfin r
    obtain ⟨r0, r1, r2, r3, r4, r5, r6⟩ := r
    have HF := Lib.hid hfin
    clear hfin hf hB2 hb2 hbw hx2
    go_wp2_with fail
    exact bodyPost_ret (v := .tuple #[nv x, .bool true]) (by simp [results, Try.results20, go_sem, nv, r0, r1, r2, r3, r4, r5, r6]) rfl ⟨rfl, HF.out⟩
  · obtain ⟨e1, e2⟩ := find_no hfk
    rw [e1, e2]
    rw [hfk] at HP
    clear e1 e2 hfk hall
    go_enter Try.func20, Try.ntmps20
    go_wp2_with fail
    rw [← HW.out]
    refine HP.out.mono ?_
    rintro e w2 ⟨rfl, hb2⟩
    have hbw := HB.out.trans (hb2.mono HB.out.size)
    have hB2 := Blk.below HB2.out hb2 (Blk.lt HB2.out)
    have hf := fun i => Blk.frozen hB2 i
    have f0 := hf 0
    have f1 := hf 1
    have f2 := hf 2
    have f3 := hf 3
    have f4 := hf 4
    have f5 := hf 5
    have f6 := hf 6
    obtain ⟨g0, g1, g2, g3, g4, g5, g6⟩ := blk7 hB2
    have hfin := below_put7 hbw (Nat.le_succ w.heap.size) nd0
    have r := blk7 (blk_put7 nd0 hB2)
    unfold put7 nd0 at hfin r
    obtain ⟨r0, r1, r2, r3, r4, r5, r6⟩ := r
    have HF := Lib.hid hfin
    have he : (bs [] : ByteArray) = ⟨#[]⟩ := rfl
    simp only [he] at r0 r1 r2 r3 r4 r5 r6
    have HF := Lib.hid HF.out
    clear hfin hf hB2 hb2 hbw
    go_wp2_with fail
    exact bodyPost_ret (v := .tuple #[nv nd0, .bool false]) (by simp [results, Try.results20, go_sem, nv, nd0, r0, r1, r2, r3, r4, r5, r6]; rfl) rfl ⟨rfl, HF.out⟩

end Go.Proofs.Ythaekoeekpofpaa
