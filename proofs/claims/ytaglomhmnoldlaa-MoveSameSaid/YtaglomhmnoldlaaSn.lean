/- next: what an operation makes of its node. -/
import Derived.Test.YtaglomhmnoldlaaSb
import Derived.Test.YtaglomhmnoldlaaT
import Derived.Test.YtaglomhmnoldlaaQTail
namespace Go.Proofs.Ytaglomhmnoldlaa
set_option linter.unusedSimpArgs false
set_option linter.unusedVariables false
open Go.RowKit
attribute [local go_sem] bs_size bs_getElem bs_list bs_append

/-- a record of the log -/
structure Rec where
  op : TOp
  was : Nd
  had : Bool
  made : Bool
instance : Inhabited Rec := ⟨⟨default, default, false, false⟩⟩
def rc (d : Rec) : List Value := oc d.op ++ (nc d.was ++ [.bool d.had, .bool d.made])
/-- the record's cells lie at place o of block g -/
def RecAt (w : World) (g o : Nat) (d : Rec) : Prop := g < w.heap.size ∧ ∀ j u, (rc d)[j]? = some u → w.cell? ⟨g, o + j, none⟩ = some u
theorem RecAt.below {w w' : World} {g o : Nat} {d : Rec} (h : RecAt w g o d) (hb : Below w.heap.size w w') : RecAt w' g o d := ⟨Nat.lt_of_lt_of_le h.1 hb.size, fun j u hu => cell_below hb h.1 (h.2 j u hu)⟩
theorem RecAt.op_ {w : World} {g o : Nat} {d : Rec} (h : RecAt w g o d) : w.cell? ⟨g, o, none⟩ = some (.int .i64 d.op.st.1) ∧ w.cell? ⟨g, o + 1, none⟩ = some (.int .i64 d.op.st.2) ∧ w.cell? ⟨g, o + 2, none⟩ = some (.int .i64 d.op.seq) ∧ w.cell? ⟨g, o + 3, none⟩ = some (.int .i64 d.op.kind) ∧ w.cell? ⟨g, o + 4, none⟩ = some (.int .i64 d.op.node.1) ∧ w.cell? ⟨g, o + 5, none⟩ = some (.int .i64 d.op.node.2) ∧ w.cell? ⟨g, o + 6, none⟩ = some (.bool d.op.dir) ∧ w.cell? ⟨g, o + 7, none⟩ = some (.int .i64 d.op.par.1) ∧ w.cell? ⟨g, o + 8, none⟩ = some (.int .i64 d.op.par.2) ∧ w.cell? ⟨g, o + 9, none⟩ = some (.string (bs d.op.nm)) ∧ w.cell? ⟨g, o + 10, none⟩ = some (.string (bs d.op.mf)) :=
  ⟨h.2 0 _ rfl, h.2 1 _ rfl, h.2 2 _ rfl, h.2 3 _ rfl, h.2 4 _ rfl, h.2 5 _ rfl, h.2 6 _ rfl, h.2 7 _ rfl, h.2 8 _ rfl, h.2 9 _ rfl, h.2 10 _ rfl⟩
theorem RecAt.was_ {w : World} {g o : Nat} {d : Rec} (h : RecAt w g o d) : w.cell? ⟨g, o + 11, none⟩ = some (.int .i64 d.was.id.1) ∧ w.cell? ⟨g, o + 12, none⟩ = some (.int .i64 d.was.id.2) ∧ w.cell? ⟨g, o + 13, none⟩ = some (.bool d.was.dir) ∧ w.cell? ⟨g, o + 14, none⟩ = some (.int .i64 d.was.par.1) ∧ w.cell? ⟨g, o + 15, none⟩ = some (.int .i64 d.was.par.2) ∧ w.cell? ⟨g, o + 16, none⟩ = some (.string (bs d.was.nm)) ∧ w.cell? ⟨g, o + 17, none⟩ = some (.string (bs d.was.mf)) :=
  ⟨h.2 11 _ rfl, h.2 12 _ rfl, h.2 13 _ rfl, h.2 14 _ rfl, h.2 15 _ rfl, h.2 16 _ rfl, h.2 17 _ rfl⟩
theorem RecAt.had_ {w : World} {g o : Nat} {d : Rec} (h : RecAt w g o d) : w.cell? ⟨g, o + 18, none⟩ = some (.bool d.had) ∧ w.cell? ⟨g, o + 19, none⟩ = some (.bool d.made) := ⟨h.2 18 _ rfl, h.2 19 _ rfl⟩

/-- what an operation makes of its node, and whether -/
def nextP (es : List Nd) (x : TOp) (y : Nd) (had : Bool) : Nd × Bool :=
  if x.kind = 1 then (⟨x.node, x.dir, if takesB x.par es then x.par else (0, 1), x.nm, x.mf⟩, !had)
  else if x.kind = 2 then ({ y with par := x.par, nm := x.nm }, had && takesB x.par es && !belowP es (es.length + 1) x.par x.node)
  else if x.kind = 3 then ({ y with mf := x.mf }, had && !y.dir)
  else if x.kind = 4 then ({ y with par := (0, 1) }, had)
  else (y, false)

/-- the two blocks of next -/
structure Nx (B q4 q6 : Nat) (w0 w : World) (z y : Nd) : Prop where
  b4 : Blk w q4 38 (nc z).toArray
  b6 : Blk w q6 38 (nc y).toArray
  below : Below B w0 w
  h4 : B ≤ q4
  h6 : B ≤ q6
  ne : q4 ≠ q6
section
variable {B q4 q6 : Nat} {w0 w w' : World} {z y : Nd}
theorem Nx.size (h : Nx B q4 q6 w0 w z y) : B ≤ w.heap.size := Nat.le_of_lt (Nat.lt_of_le_of_lt h.h4 h.b4.lt)
theorem Nx.after (h : Nx B q4 q6 w0 w z y) (hb : Below w.heap.size w w') : Nx B q4 q6 w0 w' z y :=
  ⟨h.b4.below hb h.b4.lt, h.b6.below hb h.b6.lt, h.below.trans (hb.mono h.size), h.h4, h.h6, h.ne⟩
theorem Nx.drew (h : Nx B q4 q6 w0 w z y) : Nx B q4 q6 w0 w.drew z y := h.after (Below.refl _ _).drew
/-- the node stored to the result -/
theorem Nx.last (h : Nx B q4 q6 w0 w z y) : Nx B q4 q6 w0 (put7 w q4 y) y y := ⟨blk_put7 y h.b4, far_put7 h.b6 (fun e => h.ne e.symm) y, below_put7 h.below h.h4 y, h.h4, h.h6, h.ne⟩
theorem Nx.put6 (h : Nx B q4 q6 w0 w z y) (u : Nd) : Nx B q4 q6 w0 (put7 w q6 u) z u := ⟨far_put7 h.b4 h.ne u, blk_put7 u h.b6, below_put7 h.below h.h6 u, h.h4, h.h6, h.ne⟩
theorem Nx.set1 (h : Nx B q4 q6 w0 w z y) (i : Nat) (u : Value) (y' : Nd) (he : (nc y).toArray.setIfInBounds i u = (nc y').toArray) : Nx B q4 q6 w0 (w.setCell ⟨q6, i, none⟩ u) z y' :=
  ⟨Blk.far h.b4 h.ne u, he ▸ Blk.set_ h.b6 i u, h.below.setCell (p := ⟨q6, i, none⟩) h.h6 u, h.h4, h.h6, h.ne⟩
theorem Nx.par (h : Nx B q4 q6 w0 w z y) (p : St) : Nx B q4 q6 w0 ((w.setCell ⟨q6, 3, none⟩ (.int .i64 p.1)).setCell ⟨q6, 4, none⟩ (.int .i64 p.2)) z { y with par := p } :=
  (h.set1 3 (.int .i64 p.1) { y with par := (p.1, y.par.2) } (by simp [nc])).set1 4 (.int .i64 p.2) { y with par := p } (by simp [nc])
theorem Nx.nm (h : Nx B q4 q6 w0 w z y) (s : List UInt8) : Nx B q4 q6 w0 (w.setCell ⟨q6, 5, none⟩ (.string (bs s))) z { y with nm := s } := h.set1 5 _ _ (by simp [nc])
theorem Nx.mf (h : Nx B q4 q6 w0 w z y) (s : List UInt8) : Nx B q4 q6 w0 (w.setCell ⟨q6, 6, none⟩ (.string (bs s))) z { y with mf := s } := h.set1 6 _ _ (by simp [nc])
end
theorem next_start (y : Nd) (w : World) : ∃ w2 q4 q6, w2 = (w.alloc (.cells (nc nd0).toArray 38)).alloc (.cells (nc y).toArray 38) ∧ q4 = w.heap.size ∧ q6 = w.heap.size + 1 ∧ Nx w.heap.size q4 q6 w w2 nd0 y := by
  refine ⟨_, _, _, rfl, rfl, rfl, ?_⟩
  have h1 := (Blk.new w 38 (nc nd0).toArray).alloc (.cells (nc y).toArray 38)
  have h2 := Blk.new2 w (.cells (nc nd0).toArray 38) 38 (nc y).toArray
  have b0 := (Below.refl w.heap.size w).alloc (Nat.le_refl _) (.cells (nc nd0).toArray 38)
  exact ⟨h1, h2, b0.alloc b0.size _, Nat.le_refl _, by omega, by omega⟩

set_option maxRecDepth 100000 in
set_option maxHeartbeats 6400000 in
theorem next_drop (x : TOp) (y : Nd) (had made : Bool) (h4 : x.kind = 4) (g o p m : Nat) (v : Value) (r : Int) (es : List Nd) (w : World) (hd : RecAt w g o ⟨x, y, had, made⟩) (h : Stt w p m v r es) (hm : es.length ≤ 1000000) :
    Calls Try.prog 40 #[.pointer (some ⟨p, 0, none⟩), .pointer (some ⟨g, o, none⟩)] w fun e w' =>
      e = .returned (.tuple #[nv (nextP es x y had).1, .bool (nextP es x y had).2]) ∧ Below w.heap.size w w' := by
  obtain ⟨w2, q4, q6, hw2, hq4, hq6, hN⟩ := next_start y w
  have hd2 := hd.below (w' := w2) ((Below.refl _ _).trans (hN.below.mono (Nat.le_refl _)))
  have HN := Lib.hid hN
  have HS := Lib.hid (h.below (w' := w2) hN.below)
  have HR := Lib.hid hd2
  have HD0 := Lib.hid hd
  have HS0 := Lib.hid h
  obtain ⟨a0, a1, a2, a3, a4, a5, a6⟩ := (hd.below (w' := w.alloc (.cells zn 38)) ((Below.refl _ _).alloc (Nat.le_refl _) _)).was_
  have HW := Lib.hid (show w2 = (w.alloc (.cells #[.int .i64 0, .int .i64 0, .bool false, .int .i64 0, .int .i64 0, .string ⟨#[]⟩, .string ⟨#[]⟩] 38)).alloc (.cells #[.int .i64 y.id.1, .int .i64 y.id.2, .bool y.dir, .int .i64 y.par.1, .int .i64 y.par.2, .string (bs y.nm), .string (bs y.mf)] 38) from hw2)
  have HQ := Lib.hid (And.intro hq4 hq6)
  obtain ⟨o0, o1, o2, o3, o4, o5, o6, o7, o8, o9, o10⟩ := hd2.op_
  obtain ⟨hh, hmd⟩ := hd2.had_
  obtain ⟨z0, z1, z2, z3, z4, z5, z6⟩ := blk7 hN.b4
  obtain ⟨g0, g1, g2, g3, g4, g5, g6⟩ := blkf7 hN.b4
  obtain ⟨c0, c1, c2, c3, c4, c5, c6⟩ := blk7 hN.b6
  obtain ⟨f0, f1, f2, f3, f4, f5, f6⟩ := blkf7 hN.b6
  have n46 := hN.ne
  have n64 := n46.symm
  unfold zn at a0 a1 a2 a3 a4 a5 a6
  clear hd hd2 hN h hw2 hq4 hq6
  unfold nv nextP
  have e1 : (x.kind == 1) = false := by rw [h4]; rfl
  have e2 : (x.kind == 2) = false := by rw [h4]; rfl
  have e3 : (x.kind == 3) = false := by rw [h4]; rfl
  have e4 : (x.kind == 4) = true := by rw [h4]; rfl
  rw [if_neg (by rw [h4]; decide), if_neg (by rw [h4]; decide), if_neg (by rw [h4]; decide), if_pos h4]
  clear h4
  go_enter Try.func40, Try.ntmps40
  go_upto_region 2 with (fail)
  rw [← HW.out, ← HQ.out.2, ← HQ.out.1]
  clear a0 a1 a2 a3 a4 a5 a6
  go_upto_region 16 with (fail)
  have T5 := HN.out.par (0, 1)
  obtain ⟨w5, hw5⟩ : ∃ w5, w5 = (w2.setCell ⟨q6, 3, none⟩ (.int .i64 0)).setCell ⟨q6, 4, none⟩ (.int .i64 1) := ⟨_, rfl⟩
  rw [← hw5] at T5
  rw [← hw5]
  have HT5 := Lib.hid T5
  clear hw5 T5 o0 o1 o2 o3 o4 o5 o6 o7 o8 o9 o10 hh hmd z0 z1 z2 z3 z4 z5 z6 g0 g1 g2 g3 g4 g5 g6 c0 c1 c2 c3 c4 c5 c6 f0 f1 f2 f3 f4 f5 f6
  obtain ⟨hh, hmd⟩ := (HD0.out.below HT5.out.below).had_
  obtain ⟨c0, c1, c2, c3, c4, c5, c6⟩ := blk7 HT5.out.b6
  obtain ⟨r0, r1, r2, r3, r4, r5, r6⟩ := blk7 HT5.out.b4
  obtain ⟨g0, g1, g2, g3, g4, g5, g6⟩ := blkf7 HT5.out.b4
  have z9 := HT5.out.last
  obtain ⟨t0, t1, t2, t3, t4, t5, t6⟩ := blk7 z9.b4
  have hz0 := z9.below
  unfold put7 at hz0 t0 t1 t2 t3 t4 t5 t6
  have HZ := Lib.hid hz0
  clear z9 hz0
  go_region
  go_wp2_with fail
  exact bodyPost_ret (v := .tuple #[.agg #[.int .i64 y.id.1, .int .i64 y.id.2, .bool y.dir, .int .i64 0, .int .i64 1, .string (bs y.nm), .string (bs y.mf)], .bool had]) (by simp [results, Try.results40, go_sem, t0, t1, t2, t3, t4, t5, t6]) rfl ⟨rfl, HZ.out.drew⟩

set_option maxRecDepth 100000 in
set_option maxHeartbeats 6400000 in
theorem next_edit (x : TOp) (y : Nd) (had made : Bool) (h3 : x.kind = 3) (h4 : ¬ x.kind = 4) (g o p m : Nat) (v : Value) (r : Int) (es : List Nd) (w : World) (hd : RecAt w g o ⟨x, y, had, made⟩) (h : Stt w p m v r es) (hm : es.length ≤ 1000000) :
    Calls Try.prog 40 #[.pointer (some ⟨p, 0, none⟩), .pointer (some ⟨g, o, none⟩)] w fun e w' =>
      e = .returned (.tuple #[nv (nextP es x y had).1, .bool (nextP es x y had).2]) ∧ Below w.heap.size w w' := by
  obtain ⟨w2, q4, q6, hw2, hq4, hq6, hN⟩ := next_start y w
  have hd2 := hd.below (w' := w2) ((Below.refl _ _).trans (hN.below.mono (Nat.le_refl _)))
  have HN := Lib.hid hN
  have HS := Lib.hid (h.below (w' := w2) hN.below)
  have HR := Lib.hid hd2
  have HD0 := Lib.hid hd
  have HS0 := Lib.hid h
  obtain ⟨a0, a1, a2, a3, a4, a5, a6⟩ := (hd.below (w' := w.alloc (.cells zn 38)) ((Below.refl _ _).alloc (Nat.le_refl _) _)).was_
  have HW := Lib.hid (show w2 = (w.alloc (.cells #[.int .i64 0, .int .i64 0, .bool false, .int .i64 0, .int .i64 0, .string ⟨#[]⟩, .string ⟨#[]⟩] 38)).alloc (.cells #[.int .i64 y.id.1, .int .i64 y.id.2, .bool y.dir, .int .i64 y.par.1, .int .i64 y.par.2, .string (bs y.nm), .string (bs y.mf)] 38) from hw2)
  have HQ := Lib.hid (And.intro hq4 hq6)
  obtain ⟨o0, o1, o2, o3, o4, o5, o6, o7, o8, o9, o10⟩ := hd2.op_
  obtain ⟨hh, hmd⟩ := hd2.had_
  obtain ⟨z0, z1, z2, z3, z4, z5, z6⟩ := blk7 hN.b4
  obtain ⟨g0, g1, g2, g3, g4, g5, g6⟩ := blkf7 hN.b4
  obtain ⟨c0, c1, c2, c3, c4, c5, c6⟩ := blk7 hN.b6
  obtain ⟨f0, f1, f2, f3, f4, f5, f6⟩ := blkf7 hN.b6
  have n46 := hN.ne
  have n64 := n46.symm
  unfold zn at a0 a1 a2 a3 a4 a5 a6
  clear hd hd2 hN h hw2 hq4 hq6
  unfold nv nextP
  have e4 : (x.kind == 4) = false := by simpa using h4
  have e1 : (x.kind == 1) = false := by rw [h3]; rfl
  have e2 : (x.kind == 2) = false := by rw [h3]; rfl
  have e3 : (x.kind == 3) = true := by rw [h3]; rfl
  rw [if_neg (by rw [h3]; decide), if_neg (by rw [h3]; decide), if_pos h3]
  clear h3 h4
  go_enter Try.func40, Try.ntmps40
  go_upto_region 2 with (fail)
  rw [← HW.out, ← HQ.out.2, ← HQ.out.1]
  clear a0 a1 a2 a3 a4 a5 a6
  go_upto_region 13 with (fail)
  have T5 := HN.out.mf x.mf
  obtain ⟨w5, hw5⟩ : ∃ w5, w5 = w2.setCell ⟨q6, 6, none⟩ (.string (bs x.mf)) := ⟨_, rfl⟩
  rw [← hw5] at T5
  rw [← hw5]
  have HT5 := Lib.hid T5
  clear hw5 T5 o0 o1 o2 o3 o4 o5 o6 o7 o8 o9 o10 hh hmd z0 z1 z2 z3 z4 z5 z6 g0 g1 g2 g3 g4 g5 g6 c0 c1 c2 c3 c4 c5 c6 f0 f1 f2 f3 f4 f5 f6
  obtain ⟨hh, hmd⟩ := (HD0.out.below HT5.out.below).had_
  obtain ⟨c0, c1, c2, c3, c4, c5, c6⟩ := blk7 HT5.out.b6
  obtain ⟨r0, r1, r2, r3, r4, r5, r6⟩ := blk7 HT5.out.b4
  obtain ⟨g0, g1, g2, g3, g4, g5, g6⟩ := blkf7 HT5.out.b4
  have z9 := HT5.out.last
  obtain ⟨t0, t1, t2, t3, t4, t5, t6⟩ := blk7 z9.b4
  obtain ⟨s0, s1, s2, s3, s4, s5, s6⟩ := blk7 z9.b6
  have hz0 := z9.below
  unfold put7 at hz0 t0 t1 t2 t3 t4 t5 t6 s0 s1 s2 s3 s4 s5 s6
  have HZ := Lib.hid hz0
  clear z9 hz0
  cases had with
  | false =>
    go_region
    all_goals
      go_wp2_with fail
      exact bodyPost_ret (v := .tuple #[.agg #[.int .i64 y.id.1, .int .i64 y.id.2, .bool y.dir, .int .i64 y.par.1, .int .i64 y.par.2, .string (bs y.nm), .string (bs x.mf)], .bool false]) (by simp [results, Try.results40, go_sem, t0, t1, t2, t3, t4, t5, t6]) rfl ⟨rfl, HZ.out.drew⟩
  | true =>
    go_region
    all_goals
      go_wp2_with fail
      exact bodyPost_ret (v := .tuple #[.agg #[.int .i64 y.id.1, .int .i64 y.id.2, .bool y.dir, .int .i64 y.par.1, .int .i64 y.par.2, .string (bs y.nm), .string (bs x.mf)], .bool (!y.dir)]) (by simp [results, Try.results40, go_sem, t0, t1, t2, t3, t4, t5, t6]) rfl ⟨rfl, HZ.out.drew⟩

set_option maxRecDepth 100000 in
set_option maxHeartbeats 6400000 in
theorem next_none (x : TOp) (y : Nd) (had made : Bool) (h1 : ¬ x.kind = 1) (h2 : ¬ x.kind = 2) (h3 : ¬ x.kind = 3) (h4 : ¬ x.kind = 4) (g o p m : Nat) (v : Value) (r : Int) (es : List Nd) (w : World) (hd : RecAt w g o ⟨x, y, had, made⟩) (h : Stt w p m v r es) (hm : es.length ≤ 1000000) :
    Calls Try.prog 40 #[.pointer (some ⟨p, 0, none⟩), .pointer (some ⟨g, o, none⟩)] w fun e w' =>
      e = .returned (.tuple #[nv (nextP es x y had).1, .bool (nextP es x y had).2]) ∧ Below w.heap.size w w' := by
  obtain ⟨w2, q4, q6, hw2, hq4, hq6, hN⟩ := next_start y w
  have hd2 := hd.below (w' := w2) ((Below.refl _ _).trans (hN.below.mono (Nat.le_refl _)))
  have HN := Lib.hid hN
  have HS := Lib.hid (h.below (w' := w2) hN.below)
  have HR := Lib.hid hd2
  have HD0 := Lib.hid hd
  have HS0 := Lib.hid h
  obtain ⟨a0, a1, a2, a3, a4, a5, a6⟩ := (hd.below (w' := w.alloc (.cells zn 38)) ((Below.refl _ _).alloc (Nat.le_refl _) _)).was_
  have HW := Lib.hid (show w2 = (w.alloc (.cells #[.int .i64 0, .int .i64 0, .bool false, .int .i64 0, .int .i64 0, .string ⟨#[]⟩, .string ⟨#[]⟩] 38)).alloc (.cells #[.int .i64 y.id.1, .int .i64 y.id.2, .bool y.dir, .int .i64 y.par.1, .int .i64 y.par.2, .string (bs y.nm), .string (bs y.mf)] 38) from hw2)
  have HQ := Lib.hid (And.intro hq4 hq6)
  obtain ⟨o0, o1, o2, o3, o4, o5, o6, o7, o8, o9, o10⟩ := hd2.op_
  obtain ⟨hh, hmd⟩ := hd2.had_
  obtain ⟨z0, z1, z2, z3, z4, z5, z6⟩ := blk7 hN.b4
  obtain ⟨g0, g1, g2, g3, g4, g5, g6⟩ := blkf7 hN.b4
  obtain ⟨c0, c1, c2, c3, c4, c5, c6⟩ := blk7 hN.b6
  obtain ⟨f0, f1, f2, f3, f4, f5, f6⟩ := blkf7 hN.b6
  have n46 := hN.ne
  have n64 := n46.symm
  unfold zn at a0 a1 a2 a3 a4 a5 a6
  clear hd hd2 hN h hw2 hq4 hq6
  unfold nv nextP
  have e1 : (x.kind == 1) = false := by simpa using h1
  have e3 : (x.kind == 3) = false := by simpa using h3
  have e4 : (x.kind == 4) = false := by simpa using h4
  have e2 : (x.kind == 2) = false := by simpa using h2
  rw [if_neg h1, if_neg h2, if_neg h3, if_neg h4]
  clear h1 h2 h3 h4
  have z9 := HN.out.last
  obtain ⟨t0, t1, t2, t3, t4, t5, t6⟩ := blk7 z9.b4
  have hz0 := z9.below
  unfold put7 at hz0 t0 t1 t2 t3 t4 t5 t6
  have HZ := Lib.hid hz0
  clear z9 hz0
  go_enter Try.func40, Try.ntmps40
  go_upto_region 2 with (fail)
  rw [← HW.out, ← HQ.out.2, ← HQ.out.1]
  go_wp2_with fail
  exact bodyPost_ret (v := .tuple #[.agg #[.int .i64 y.id.1, .int .i64 y.id.2, .bool y.dir, .int .i64 y.par.1, .int .i64 y.par.2, .string (bs y.nm), .string (bs y.mf)], .bool false]) (by simp [results, Try.results40, go_sem, t0, t1, t2, t3, t4, t5, t6]) rfl ⟨rfl, HZ.out⟩
end Go.Proofs.Ytaglomhmnoldlaa
