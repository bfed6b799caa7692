/- next: Make. -/
import Derived.Test.YtaglomhmnoldlaaSn
namespace Go.Proofs.Ytaglomhmnoldlaa
set_option linter.unusedSimpArgs false
set_option linter.unusedVariables false
open Go.RowKit
attribute [local go_sem] bs_size bs_getElem bs_list bs_append

set_option maxRecDepth 100000 in
set_option maxHeartbeats 6400000 in
theorem next_make (x : TOp) (y : Nd) (had made : Bool) (h1 : x.kind = 1) (h3 : ¬ x.kind = 3) (h4 : ¬ x.kind = 4) (g o p m : Nat) (v : Value) (r : Int) (es : List Nd) (w : World) (hd : RecAt w g o ⟨x, y, had, made⟩) (h : Stt w p m v r es) (hm : es.length ≤ 1000000) :
    Calls Try.prog 40 #[.pointer (some ⟨p, 0, none⟩), .pointer (some ⟨g, o, none⟩)] w fun e w' =>
      e = .returned (.tuple #[nv (nextP es x y had).1, .bool (nextP es x y had).2]) ∧ Below w.heap.size w w' := by
  obtain ⟨w2, q4, q6, hw2, hq4, hq6, hN⟩ := next_start y w
  have hd2 := hd.below (w' := w2) ((Below.refl _ _).trans (hN.below.mono (Nat.le_refl _)))
  have HN := Lib.hid hN
  have HS := Lib.hid (h.below (w' := w2) hN.below)
  have HR := Lib.hid hd2
  have HD0 := Lib.hid hd
  have HS0 := Lib.hid h
  obtain ⟨a0, a1, a2, a3, a4, a5, a6⟩ := (hd.below (w' := w.alloc (.cells zn 38)) ((Below.refl _ _).alloc (Nat.le_refl _) _)).was_
  have HW := Lib.hid (show w2 = (w.alloc (.cells #[.int .i64 0, .int .i64 0, .bool false, .int .i64 0, .int .i64 0, .string ⟨#[]⟩, .string ⟨#[]⟩] 38)).alloc (.cells #[.int .i64 y.id.1, .int .i64 y.id.2, .bool y.dir, .int .i64 y.par.1, .int .i64 y.par.2, .string (bs y.nm), .string (bs y.mf)] 38) from hw2)
  have HQ := Lib.hid (And.intro hq4 hq6)
  obtain ⟨o0, o1, o2, o3, o4, o5, o6, o7, o8, o9, o10⟩ := hd2.op_
  obtain ⟨hh, hmd⟩ := hd2.had_
  obtain ⟨z0, z1, z2, z3, z4, z5, z6⟩ := blk7 hN.b4
  obtain ⟨g0, g1, g2, g3, g4, g5, g6⟩ := blkf7 hN.b4
  obtain ⟨c0, c1, c2, c3, c4, c5, c6⟩ := blk7 hN.b6
  obtain ⟨f0, f1, f2, f3, f4, f5, f6⟩ := blkf7 hN.b6
  have n46 := hN.ne
  have n64 := n46.symm
  unfold zn at a0 a1 a2 a3 a4 a5 a6
  clear hd hd2 hN h hw2 hq4 hq6
  unfold nv nextP
  have e3 : (x.kind == 3) = false := by simpa using h3
  have e4 : (x.kind == 4) = false := by simpa using h4
  have e1 : (x.kind == 1) = true := by rw [h1]; rfl
  rw [if_pos h1]
  obtain ⟨pp, hpp⟩ : ∃ pp, pp = (if takesB x.par es then x.par else (0, 1)) := ⟨_, rfl⟩
  rw [← hpp]
  have HP := Lib.hid hpp
  clear h1 h3 h4 hpp
  go_enter Try.func40, Try.ntmps40
  go_upto_region 2 with (fail)
  rw [← HW.out, ← HQ.out.2, ← HQ.out.1]
  clear a0 a1 a2 a3 a4 a5 a6
  go_upto_region 4 with (fail)
  have T5 := (HN.out.put6 ⟨x.node, x.dir, x.par, x.nm, x.mf⟩).drew
  refine wp_region_quiet_tail (C := fun w' => w' = w2.drew) 26 (by kernel_rfl) (by kernel_rfl) rfl ?_
  simp only [List.take_succ_cons, List.take_zero, List.drop_succ_cons, List.drop_zero]
  repeat (go_big_quiet_step (fail))
  refine wpQuiet_nil ?_
  rintro _ rfl
  go_wp2_with fail
  obtain ⟨w5, hw5⟩ : ∃ w5, w5 = (put7 w2 q6 ⟨x.node, x.dir, x.par, x.nm, x.mf⟩).drew := ⟨_, rfl⟩
  rw [← hw5] at T5
  unfold put7 at hw5
  simp only at hw5
  rw [← hw5]
  have HT5 := Lib.hid T5
  clear hw5 T5 o0 o1 o2 o3 o4 o5 o6 o9 o10 o7 o8 hh hmd z0 z1 z2 z3 z4 z5 z6 g0 g1 g2 g3 g4 g5 g6 c0 c1 c2 c3 c4 c5 c6 f0 f1 f2 f3 f4 f5 f6
  obtain ⟨_, _, _, _, _, _, _, o7, o8, _, _⟩ := (HD0.out.below HT5.out.below).op_
  go_wp2_with fail
  refine (mtakes_any x.par p m v r es _ (HS0.out.below HT5.out.below)).mono ?_
  rintro e w6 ⟨rfl, hb6⟩
  have HT6 := Lib.hid (HT5.out.after hb6)
  clear hb6 o7 o8
  cases ht : takesB x.par es with
  | true =>
    obtain ⟨hh, hmd⟩ := (HD0.out.below HT6.out.below).had_
    obtain ⟨c0, c1, c2, c3, c4, c5, c6⟩ := blk7 HT6.out.b6
    obtain ⟨r0, r1, r2, r3, r4, r5, r6⟩ := blk7 HT6.out.b4
    obtain ⟨g0, g1, g2, g3, g4, g5, g6⟩ := blkf7 HT6.out.b4
    have z9 := HT6.out.last
    obtain ⟨t0, t1, t2, t3, t4, t5, t6⟩ := blk7 z9.b4
    have hz0 := z9.below
    unfold put7 at hz0 t0 t1 t2 t3 t4 t5 t6
    have HZ := Lib.hid hz0
    have HTt := Lib.hid ht
    clear z9 hz0 ht
    go_upto_region 7 with (fail)
    go_region
    go_wp2_with fail
    exact bodyPost_ret (v := .tuple #[.agg #[.int .i64 x.node.1, .int .i64 x.node.2, .bool x.dir, .int .i64 x.par.1, .int .i64 x.par.2, .string (bs x.nm), .string (bs x.mf)], .bool (!had)]) (by simp [results, Try.results40, go_sem, t0, t1, t2, t3, t4, t5, t6]) rfl ⟨by rw [HP.out, HTt.out]; rfl, HZ.out.drew⟩
  | false =>
    obtain ⟨f0, f1, f2, f3, f4, f5, f6⟩ := blkf7 HT6.out.b6
    obtain ⟨c0, c1, c2, c3, c4, c5, c6⟩ := blk7 HT6.out.b6
    have HTt := Lib.hid ht
    clear ht
    go_upto_region 7 with (fail)
    have T7 := HT6.out.par (0, 1)
    obtain ⟨w7, hw7⟩ : ∃ w7, w7 = (w6.setCell ⟨q6, 3, none⟩ (.int .i64 0)).setCell ⟨q6, 4, none⟩ (.int .i64 1) := ⟨_, rfl⟩
    rw [← hw7] at T7
    rw [← hw7]
    have HT7 := Lib.hid T7
    clear hw7 T7 c0 c1 c2 c3 c4 c5 c6 f0 f1 f2 f3 f4 f5 f6
    obtain ⟨hh, hmd⟩ := (HD0.out.below HT7.out.below).had_
    obtain ⟨c0, c1, c2, c3, c4, c5, c6⟩ := blk7 HT7.out.b6
    obtain ⟨r0, r1, r2, r3, r4, r5, r6⟩ := blk7 HT7.out.b4
    obtain ⟨g0, g1, g2, g3, g4, g5, g6⟩ := blkf7 HT7.out.b4
    have z9 := HT7.out.last
    obtain ⟨t0, t1, t2, t3, t4, t5, t6⟩ := blk7 z9.b4
    have hz0 := z9.below
    unfold put7 at hz0 t0 t1 t2 t3 t4 t5 t6
    have HZ := Lib.hid hz0
    clear z9 hz0
    go_region
    go_wp2_with fail
    exact bodyPost_ret (v := .tuple #[.agg #[.int .i64 x.node.1, .int .i64 x.node.2, .bool x.dir, .int .i64 0, .int .i64 1, .string (bs x.nm), .string (bs x.mf)], .bool (!had)]) (by simp [results, Try.results40, go_sem, t0, t1, t2, t3, t4, t5, t6]) rfl ⟨by rw [HP.out, HTt.out]; rfl, HZ.out.drew⟩

end Go.Proofs.Ytaglomhmnoldlaa
