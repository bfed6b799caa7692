/- turned: a node behind an operation that it takes. -/
import Derived.Test.YtaglomhmnoldlaaR
import Derived.Deep.Cut
namespace Go.Proofs.Ytaglomhmnoldlaa
set_option linter.unusedSimpArgs false
set_option linter.unusedVariables false
open Go.RowKit
attribute [local go_sem] bs_size bs_getElem bs_list bs_append

/-- a node behind an operation, and whether it takes it -/
def turnP (xs : List Nd) (x : TOp) (y : Nd) : Nd × Bool :=
  if x.kind = 2 then ({ y with par := x.par, nm := x.nm }, takesB x.par xs && !decide (x.node ∈ chainN xs x.par))
  else if x.kind = 3 then ({ y with mf := x.mf }, !y.dir)
  else if x.kind = 4 then ({ y with par := (0, 1) }, true)
  else (y, false)
theorem turnN_P (xs : List Nd) (x : TOp) (y : Nd) : turnN xs x y = if (turnP xs x y).2 then some (turnP xs x y).1 else none := by
  unfold turnN turnP
  by_cases h2 : x.kind = 2
  · simp [h2]
  by_cases h3 : x.kind = 3
  · by_cases hd : y.dir <;> simp [h3, hd]
  by_cases h4 : x.kind = 4
  · simp [h4]
  · simp [h2, h3, h4]

theorem blk11 {w : World} {B : Nat} {x : TOp} (h : Blk w B 31 (oc x).toArray) : w.cell? ⟨B, 0, none⟩ = some (.int .i64 x.st.1) ∧ w.cell? ⟨B, 1, none⟩ = some (.int .i64 x.st.2) ∧ w.cell? ⟨B, 2, none⟩ = some (.int .i64 x.seq) ∧ w.cell? ⟨B, 3, none⟩ = some (.int .i64 x.kind) ∧ w.cell? ⟨B, 4, none⟩ = some (.int .i64 x.node.1) ∧ w.cell? ⟨B, 5, none⟩ = some (.int .i64 x.node.2) ∧ w.cell? ⟨B, 6, none⟩ = some (.bool x.dir) ∧ w.cell? ⟨B, 7, none⟩ = some (.int .i64 x.par.1) ∧ w.cell? ⟨B, 8, none⟩ = some (.int .i64 x.par.2) ∧ w.cell? ⟨B, 9, none⟩ = some (.string (bs x.nm)) ∧ w.cell? ⟨B, 10, none⟩ = some (.string (bs x.mf)) :=
  ⟨h.cell 0, h.cell 1, h.cell 2, h.cell 3, h.cell 4, h.cell 5, h.cell 6, h.cell 7, h.cell 8, h.cell 9, h.cell 10⟩
theorem blkf7 {w : World} {B : Nat} {x : Nd} (h : Blk w B 38 (nc x).toArray) : w.frozen? ⟨B, 0, none⟩ = false ∧ w.frozen? ⟨B, 1, none⟩ = false ∧ w.frozen? ⟨B, 2, none⟩ = false ∧ w.frozen? ⟨B, 3, none⟩ = false ∧ w.frozen? ⟨B, 4, none⟩ = false ∧ w.frozen? ⟨B, 5, none⟩ = false ∧ w.frozen? ⟨B, 6, none⟩ = false :=
  ⟨h.frozen 0, h.frozen 1, h.frozen 2, h.frozen 3, h.frozen 4, h.frozen 5, h.frozen 6⟩

/-- the three blocks of turned -/
structure Three (B q1 q2 q3 : Nat) (w0 w : World) (y z : Nd) (x : TOp) : Prop where
  b1 : Blk w q1 38 (nc y).toArray
  b2 : Blk w q2 31 (oc x).toArray
  b3 : Blk w q3 38 (nc z).toArray
  below : Below B w0 w
  h1 : B ≤ q1
  h3 : B ≤ q3
  n12 : q1 ≠ q2
  n13 : q1 ≠ q3
  n23 : q2 ≠ q3
theorem Three.after {B q1 q2 q3 : Nat} {w0 w w' : World} {y z : Nd} {x : TOp} (h : Three B q1 q2 q3 w0 w y z x) (hb : Below w.heap.size w w') (hs : B ≤ w.heap.size) : Three B q1 q2 q3 w0 w' y z x :=
  ⟨h.b1.below hb h.b1.lt, h.b2.below hb h.b2.lt, h.b3.below hb h.b3.lt, h.below.trans (hb.mono hs), h.h1, h.h3, h.n12, h.n13, h.n23⟩
theorem Three.size {B q1 q2 q3 : Nat} {w0 w : World} {y z : Nd} {x : TOp} (h : Three B q1 q2 q3 w0 w y z x) : B ≤ w.heap.size := Nat.le_of_lt (Nat.lt_of_le_of_lt h.h1 h.b1.lt)
/-- what a load of the node finds, stored to the result -/
theorem Three.last {B q1 q2 q3 : Nat} {w0 w : World} {y z : Nd} {x : TOp} (h : Three B q1 q2 q3 w0 w y z x) : Blk (put7 w q3 y) q3 38 (nc y).toArray ∧ Below B w0 (put7 w q3 y) := ⟨blk_put7 y h.b3, below_put7 h.below h.h3 y⟩

theorem Three.set1 {B q1 q2 q3 : Nat} {w0 w : World} {y z : Nd} {x : TOp} (h : Three B q1 q2 q3 w0 w y z x) (i : Nat) (u : Value) (y' : Nd) (he : (nc y).toArray.setIfInBounds i u = (nc y').toArray) : Three B q1 q2 q3 w0 (w.setCell ⟨q1, i, none⟩ u) y' z x :=
  ⟨he ▸ Blk.set_ h.b1 i u, Blk.far h.b2 (fun e => h.n12 e.symm) u, Blk.far h.b3 (fun e => h.n13 e.symm) u, h.below.setCell (p := ⟨q1, i, none⟩) h.h1 u, h.h1, h.h3, h.n12, h.n13, h.n23⟩
theorem Three.par {B q1 q2 q3 : Nat} {w0 w : World} {y z : Nd} {x : TOp} (h : Three B q1 q2 q3 w0 w y z x) (p : St) : Three B q1 q2 q3 w0 ((w.setCell ⟨q1, 3, none⟩ (.int .i64 p.1)).setCell ⟨q1, 4, none⟩ (.int .i64 p.2)) { y with par := p } z x :=
  (h.set1 3 (.int .i64 p.1) { y with par := (p.1, y.par.2) } (by simp [nc])).set1 4 (.int .i64 p.2) { y with par := p } (by simp [nc])
theorem Three.nm {B q1 q2 q3 : Nat} {w0 w : World} {y z : Nd} {x : TOp} (h : Three B q1 q2 q3 w0 w y z x) (s : List UInt8) : Three B q1 q2 q3 w0 (w.setCell ⟨q1, 5, none⟩ (.string (bs s))) { y with nm := s } z x := h.set1 5 _ _ (by simp [nc])
theorem Three.mf {B q1 q2 q3 : Nat} {w0 w : World} {y z : Nd} {x : TOp} (h : Three B q1 q2 q3 w0 w y z x) (s : List UInt8) : Three B q1 q2 q3 w0 (w.setCell ⟨q1, 6, none⟩ (.string (bs s))) { y with mf := s } z x := h.set1 6 _ _ (by simp [nc])
theorem Three.drew {B q1 q2 q3 : Nat} {w0 w : World} {y z : Nd} {x : TOp} (h : Three B q1 q2 q3 w0 w y z x) : Three B q1 q2 q3 w0 w.drew y z x := ⟨h.b1, h.b2, h.b3, h.below.drew, h.h1, h.h3, h.n12, h.n13, h.n23⟩

/-- what the last region reads -/
theorem Three.reads {B q1 q2 q3 : Nat} {w0 w : World} {y z : Nd} {x : TOp} (h : Three B q1 q2 q3 w0 w y z x) : w.cell? ⟨q1, 0, none⟩ = some (.int .i64 y.id.1) ∧ w.cell? ⟨q1, 1, none⟩ = some (.int .i64 y.id.2) ∧ w.cell? ⟨q1, 2, none⟩ = some (.bool y.dir) ∧ w.cell? ⟨q1, 3, none⟩ = some (.int .i64 y.par.1) ∧ w.cell? ⟨q1, 4, none⟩ = some (.int .i64 y.par.2) ∧ w.cell? ⟨q1, 5, none⟩ = some (.string (bs y.nm)) ∧ w.cell? ⟨q1, 6, none⟩ = some (.string (bs y.mf)) ∧
    w.cell? ⟨q2, 4, none⟩ = some (.int .i64 x.node.1) ∧ w.cell? ⟨q2, 5, none⟩ = some (.int .i64 x.node.2) ∧ w.cell? ⟨q2, 7, none⟩ = some (.int .i64 x.par.1) ∧ w.cell? ⟨q2, 8, none⟩ = some (.int .i64 x.par.2) :=
  ⟨h.b1.cell 0, h.b1.cell 1, h.b1.cell 2, h.b1.cell 3, h.b1.cell 4, h.b1.cell 5, h.b1.cell 6, h.b2.cell 4, h.b2.cell 5, h.b2.cell 7, h.b2.cell 8⟩
theorem far_put7 {w : World} {B g : Nat} {t : TypeId} {cs : Array Value} (h : Blk w g t cs) (hne : g ≠ B) (x : Nd) : Blk (put7 w B x) g t cs := by
  unfold put7
  exact Blk.far (Blk.far (Blk.far (Blk.far (Blk.far (Blk.far (Blk.far h hne _) hne _) hne _) hne _) hne _) hne _) hne _
theorem Three.put {B q1 q2 q3 : Nat} {w0 w : World} {y z : Nd} {x : TOp} (h : Three B q1 q2 q3 w0 w y z x) (u : Nd) : Three B q1 q2 q3 w0 (put7 w q3 u) y u x :=
  ⟨far_put7 h.b1 h.n13 u, far_put7 h.b2 h.n23 u, blk_put7 u h.b3, below_put7 h.below h.h3 u, h.h1, h.h3, h.n12, h.n13, h.n23⟩

set_option maxRecDepth 100000 in
set_option maxHeartbeats 3200000 in
theorem turned_start (y : Nd) (x : TOp) (w : World) : ∃ w3 q1 q2 q3, w3 = ((w.alloc (.cells (nc y).toArray 38)).alloc (.cells (oc x).toArray 31)).alloc (.cells (nc nd0).toArray 38) ∧ q1 = w.heap.size ∧ q2 = w.heap.size + 1 ∧ q3 = w.heap.size + 1 + 1 ∧ Three w.heap.size q1 q2 q3 w w3 y nd0 x := by
  refine ⟨_, _, _, _, rfl, rfl, rfl, rfl, ?_⟩
  have h1 := (Blk.new w 38 (nc y).toArray).alloc (.cells (oc x).toArray 31)
  have h2 := Blk.new2 w (.cells (nc y).toArray 38) 31 (oc x).toArray
  have h3 := Blk.new2 (w.alloc (.cells (nc y).toArray 38)) (.cells (oc x).toArray 31) 38 (nc nd0).toArray
  have e : (w.alloc (.cells (nc y).toArray 38)).heap.size = w.heap.size + 1 := Array.size_push _
  rw [e] at h3
  have b0 := (Below.refl w.heap.size w).alloc (Nat.le_refl _) (.cells (nc y).toArray 38)
  have b1 := b0.alloc b0.size (.cells (oc x).toArray 31)
  exact ⟨h1.alloc _, h2.alloc _, h3, b1.alloc b1.size _, Nat.le_refl _, by omega, by omega, by omega, by omega⟩

set_option maxRecDepth 100000 in
set_option maxHeartbeats 3200000 in
theorem turned_any (y : Nd) (x : TOp) (A : Option Addr) (n c : Nat) (xs : List Nd) (w : World) (hx : Nds w A n c xs) (hm : n ≤ 100000) :
    Calls Try.prog 49 #[.slice A n c, nv y, ov x] w fun e w' => e = .returned (.tuple #[nv (turnP xs x y).1, .bool (turnP xs x y).2]) ∧ Below w.heap.size w w' := by
  have hn := hx.len
  have hmx := hx.max
  have hle := hx.le
  obtain ⟨w3, q1, q2, q3, hw3, hq1, hq2, hq3, hT⟩ := turned_start y x w
  have hx3 := hx.below hT.below
  have HX := Lib.hid hx3
  have HT := Lib.hid hT
  have HW := Lib.hid (show w3 = ((w.alloc (.cells #[.int .i64 y.id.1, .int .i64 y.id.2, .bool y.dir, .int .i64 y.par.1, .int .i64 y.par.2, .string (bs y.nm), .string (bs y.mf)] 38)).alloc (.cells #[.int .i64 x.st.1, .int .i64 x.st.2, .int .i64 x.seq, .int .i64 x.kind, .int .i64 x.node.1, .int .i64 x.node.2, .bool x.dir, .int .i64 x.par.1, .int .i64 x.par.2, .string (bs x.nm), .string (bs x.mf)] 31)).alloc (.cells #[.int .i64 0, .int .i64 0, .bool false, .int .i64 0, .int .i64 0, .string ⟨#[]⟩, .string ⟨#[]⟩] 38) from hw3)
  have HQ := Lib.hid (And.intro hq1 (And.intro hq2 hq3))
  obtain ⟨c0, c1, c2, c3, c4, c5, c6⟩ := blk7 hT.b1
  obtain ⟨f0, f1, f2, f3, f4, f5, f6⟩ := blkf7 hT.b1
  obtain ⟨o0, o1, o2, o3, o4, o5, o6, o7, o8, o9, o10⟩ := blk11 hT.b2
  have n12 := hT.n12
  have n13 := hT.n13
  have n23 := hT.n23
  have n21 := n12.symm
  have n31 := n13.symm
  have n32 := n23.symm
  obtain ⟨r0, r1, r2, r3, r4, r5, r6⟩ := blk7 hT.b3
  obtain ⟨g0, g1, g2, g3, g4, g5, g6⟩ := blkf7 hT.b3
  clear hT hw3 hq1 hq2 hq3 hx3
  unfold nv ov turnP
  by_cases h4 : x.kind = 4
  · have e2 : (x.kind == 2) = false := by rw [h4]; rfl
    have e3 : (x.kind == 3) = false := by rw [h4]; rfl
    have e4 : (x.kind == 4) = true := by rw [h4]; rfl
    rw [if_neg (by rw [h4]; decide), if_neg (by rw [h4]; decide), if_pos h4]
    clear h4
    go_enter Try.func49, Try.ntmps49
    go_upto_region 1 with (fail)
    rw [← HW.out, ← HQ.out.2.2, ← HQ.out.2.1, ← HQ.out.1]
    go_wp2_with fail
    refine (trash_st w3).mono ?_
    rintro e w4 ⟨rfl, hb4⟩
    have T4 := HT.out.after hb4 HT.out.size
    clear c0 c1 c2 c3 c4 c5 c6 f0 f1 f2 f3 f4 f5 f6 o0 o1 o2 o3 o4 o5 o6 o7 o8 o9 o10 r0 r1 r2 r3 r4 r5 r6 g0 g1 g2 g3 g4 g5 g6 hb4
    obtain ⟨c0, c1, c2, c3, c4, c5, c6⟩ := blk7 T4.b1
    obtain ⟨f0, f1, f2, f3, f4, f5, f6⟩ := blkf7 T4.b1
    obtain ⟨r0, r1, r2, r3, r4, r5, r6⟩ := blk7 T4.b3
    obtain ⟨g0, g1, g2, g3, g4, g5, g6⟩ := blkf7 T4.b3
    have T5 := Three.par T4 (0, 1)
    obtain ⟨z0, hz0⟩ := T5.last
    obtain ⟨t0, t1, t2, t3, t4, t5, t6⟩ := blk7 z0
    unfold put7 at hz0 t0 t1 t2 t3 t4 t5 t6
    have HZ := Lib.hid hz0
    clear T4 T5 z0 hz0
    go_wp2_with fail
    exact bodyPost_ret (v := .tuple #[.agg #[.int .i64 y.id.1, .int .i64 y.id.2, .bool y.dir, .int .i64 0, .int .i64 1, .string (bs y.nm), .string (bs y.mf)], .bool true]) (by simp [results, Try.results49, go_sem, t0, t1, t2, t3, t4, t5, t6]) rfl ⟨rfl, HZ.out⟩
  have e4 : (x.kind == 4) = false := by simpa using h4
  by_cases h3 : x.kind = 3
  · have e2 : (x.kind == 2) = false := by rw [h3]; rfl
    have e3 : (x.kind == 3) = true := by rw [h3]; rfl
    rw [if_neg (by rw [h3]; decide), if_pos h3]
    clear h3 h4
    go_enter Try.func49, Try.ntmps49
    go_upto_region 1 with (fail)
    rw [← HW.out, ← HQ.out.2.2, ← HQ.out.2.1, ← HQ.out.1]
    go_upto_region 7 with (fail)
    have T5 := Three.mf HT.out x.mf
    obtain ⟨w5, hw5⟩ : ∃ w5, w5 = w3.setCell ⟨q1, 6, none⟩ (.string (bs x.mf)) := ⟨_, rfl⟩
    rw [← hw5] at T5
    rw [← hw5]
    have HT5 := Lib.hid T5
    clear hw5 c0 c1 c2 c3 c4 c5 c6 f0 f1 f2 f3 f4 f5 f6 o0 o1 o2 o3 o4 o5 o6 o7 o8 o9 o10 r0 r1 r2 r3 r4 r5 r6 g0 g1 g2 g3 g4 g5 g6
    obtain ⟨c0, c1, c2, c3, c4, c5, c6⟩ := blk7 T5.b1
    obtain ⟨r0, r1, r2, r3, r4, r5, r6⟩ := blk7 T5.b3
    obtain ⟨g0, g1, g2, g3, g4, g5, g6⟩ := blkf7 T5.b3
    obtain ⟨z0, hz0⟩ := T5.last
    obtain ⟨t0, t1, t2, t3, t4, t5, t6⟩ := blk7 z0
    unfold put7 at hz0 t0 t1 t2 t3 t4 t5 t6
    have HZ := Lib.hid hz0
    clear T5 z0 hz0
    go_region
    go_wp2_with fail
    exact bodyPost_ret (v := .tuple #[.agg #[.int .i64 y.id.1, .int .i64 y.id.2, .bool y.dir, .int .i64 y.par.1, .int .i64 y.par.2, .string (bs y.nm), .string (bs x.mf)], .bool (!y.dir)]) (by simp [results, Try.results49, go_sem, t0, t1, t2, t3, t4, t5, t6]) rfl ⟨rfl, HZ.out.drew⟩
  have e3 : (x.kind == 3) = false := by simpa using h3
  by_cases h2 : x.kind = 2
  · have e2 : (x.kind == 2) = true := by rw [h2]; rfl
    rw [if_pos h2]
    clear h2 h3 h4
    go_enter Try.func49, Try.ntmps49
    go_upto_region 1 with (fail)
    rw [← HW.out, ← HQ.out.2.2, ← HQ.out.2.1, ← HQ.out.1]
    go_upto_region 3 with (fail)
    have T5 := Three.nm (Three.par HT.out x.par) x.nm
    clear r0 r1 r2 r3 r4 r5 r6 g0 g1 g2 g3 g4 g5 g6
    go_region
    obtain ⟨w5, hw5⟩ : ∃ w5, w5 = (((w3.setCell ⟨q1, 3, none⟩ (.int .i64 x.par.1)).setCell ⟨q1, 4, none⟩ (.int .i64 x.par.2)).setCell ⟨q1, 5, none⟩ (.string (bs x.nm))).drew := ⟨_, rfl⟩
    rw [← hw5]
    have HX5 : RowKit.Hid (Nds w5 A n c xs) := by
      rw [hw5]
      exact hx.below (T5.below.drew)
    have HT5 : RowKit.Hid (Three w.heap.size q1 q2 q3 w w5 ⟨y.id, y.dir, x.par, x.nm, y.mf⟩ nd0 x) := by rw [hw5]; exact T5.drew
    have HTk := Lib.hid (fun (w' : World) (h : Nds w' A n c xs) => takes_any x.par A n c xs w' h)
    have HCh := Lib.hid (fun (w' : World) (h : Nds w' A n c xs) => chain_any x.par A n c xs w' h (by omega))
    unfold sv at HTk HCh
    clear T5 hw5 c0 c1 c2 c3 c4 c5 c6 f0 f1 f2 f3 f4 f5 f6 o0 o1 o2 o3 o4 o5 o6 o7 o8 o9 o10 hx hm hn hmx hle
    go_upto_region 4 with (fail)
    cases ht : takesB x.par xs with
    | true =>
      rw [ht] at HTk
      have HTt := Lib.hid ht
      clear ht
      go_region_held3 (fun w' => w'.cell? ⟨q1, 0, none⟩ = some (.int .i64 y.id.1) ∧ w'.cell? ⟨q1, 1, none⟩ = some (.int .i64 y.id.2) ∧ w'.cell? ⟨q1, 2, none⟩ = some (.bool y.dir) ∧ w'.cell? ⟨q1, 3, none⟩ = some (.int .i64 x.par.1) ∧ w'.cell? ⟨q1, 4, none⟩ = some (.int .i64 x.par.2) ∧ w'.cell? ⟨q1, 5, none⟩ = some (.string (bs x.nm)) ∧ w'.cell? ⟨q1, 6, none⟩ = some (.string (bs y.mf)) ∧
          w'.cell? ⟨q2, 4, none⟩ = some (.int .i64 x.node.1) ∧ w'.cell? ⟨q2, 5, none⟩ = some (.int .i64 x.node.2) ∧ w'.cell? ⟨q2, 7, none⟩ = some (.int .i64 x.par.1) ∧ w'.cell? ⟨q2, 8, none⟩ = some (.int .i64 x.par.2))
        (first | with_reducible exact HT8.out.reads | exact (HT8.out.put ⟨y.id, y.dir, x.par, x.nm, y.mf⟩).reads | with_reducible exact HT7.out.reads | with_reducible exact HT6.out.reads | exact HT5.out.reads)
        (first
          | (go_at_call 46; refine (HTk.out _ (HX5.out.below (Below.refl _ _).drew)).mono ?_; rintro e w6 ⟨rfl, hb6⟩; have HT6 := Lib.hid (HT5.out.drew.after hb6 HT5.out.size); have HX6 := Lib.hid ((HX5.out.below (Below.refl _ _).drew).below hb6); clear hb6)
          | (go_at_call 68; refine (HCh.out _ HX6.out).mono ?_; rintro e w7 ⟨v7, rfl, hO7, hb7⟩; obtain ⟨A7, c7, rfl, hS7⟩ := OwnS.sts hO7; have HT7 := Lib.hid (HT6.out.after hb7 HT6.out.size); have HS7 := Lib.hid hS7; clear hb7 hO7 hS7)
          | (go_at_call 67; refine (contains_st x.node A7 _ c7 (chainN xs x.par) _ HS7.out).mono ?_; rintro e w8 ⟨rfl, hb8⟩; have hT8 := HT7.out.after hb8 HT7.out.size; have HT8 := Lib.hid hT8; obtain ⟨r0, r1, r2, r3, r4, r5, r6⟩ := blk7 hT8.b3; obtain ⟨g0, g1, g2, g3, g4, g5, g6⟩ := blkf7 hT8.b3; clear hb8 hT8))
      have hP := HT8.out.put ⟨y.id, y.dir, x.par, x.nm, y.mf⟩
      obtain ⟨t0, t1, t2, t3, t4, t5, t6⟩ := blk7 hP.b3
      have hz0 := hP.below
      unfold put7 at hz0 t0 t1 t2 t3 t4 t5 t6
      have HZ := Lib.hid hz0
      clear hP hz0 r0 r1 r2 r3 r4 r5 r6 g0 g1 g2 g3 g4 g5 g6
      go_wp2_with fail
      exact bodyPost_ret (v := .tuple #[.agg #[.int .i64 y.id.1, .int .i64 y.id.2, .bool y.dir, .int .i64 x.par.1, .int .i64 x.par.2, .string (bs x.nm), .string (bs y.mf)], .bool (!decide (x.node ∈ chainN xs x.par))]) (by simp [results, Try.results49, go_sem, t0, t1, t2, t3, t4, t5, t6]) rfl ⟨by rw [HTt.out, Bool.true_and], HZ.out⟩
    | false =>
      rw [ht] at HTk
      have HTt := Lib.hid ht
      clear ht HCh
      have hT5 := HT5.out
      obtain ⟨o0, o1, o2, o3, o4, o5, o6, o7, o8, o9, o10⟩ := blk11 hT5.b2
      obtain ⟨c0, c1, c2, c3, c4, c5, c6⟩ := blk7 hT5.b1
      clear hT5
      refine wp_region_noPanic ?_
      refine wp_region_held_drew (S := fun w' => w'.cell? ⟨q1, 0, none⟩ = some (.int .i64 y.id.1) ∧ w'.cell? ⟨q1, 1, none⟩ = some (.int .i64 y.id.2) ∧ w'.cell? ⟨q1, 2, none⟩ = some (.bool y.dir) ∧ w'.cell? ⟨q1, 3, none⟩ = some (.int .i64 x.par.1) ∧ w'.cell? ⟨q1, 4, none⟩ = some (.int .i64 x.par.2) ∧ w'.cell? ⟨q1, 5, none⟩ = some (.string (bs x.nm)) ∧ w'.cell? ⟨q1, 6, none⟩ = some (.string (bs y.mf)) ∧
          w'.cell? ⟨q2, 4, none⟩ = some (.int .i64 x.node.1) ∧ w'.cell? ⟨q2, 5, none⟩ = some (.int .i64 x.node.2) ∧ w'.cell? ⟨q2, 7, none⟩ = some (.int .i64 x.par.1) ∧ w'.cell? ⟨q2, 8, none⟩ = some (.int .i64 x.par.2)) (by kernel_rfl) HT5.out.reads (fun hHeld => ?_)
      refine wpAnyH_take (i := 1) (v := ?_) rfl (by kernel_rfl) (by kernel_rfl) (by kernel_rfl) (fun _ _ _ h => h) (Or.inl ⟨by rfl, ?_⟩) hHeld ?_
      rotate_left
      · (intro w hSw; (try dsimp only at hSw); go_simp; first | done | with_reducible rfl)
      (try simp only [Act.put, List.setIfInBounds_toArray, List.set_cons_zero, List.set_cons_succ])
      refine wpAnyH_take (i := 2) (v := ?_) rfl (by kernel_rfl) (by kernel_rfl) (by kernel_rfl) (fun _ _ _ h => h) (Or.inl ⟨by rfl, ?_⟩) hHeld ?_
      rotate_left
      · (intro w hSw; (try dsimp only at hSw); go_simp; first | done | with_reducible rfl)
      (try simp only [Act.put, List.setIfInBounds_toArray, List.set_cons_zero, List.set_cons_succ])
      refine wpAnyH_take (i := 3) (v := ?_) rfl (by kernel_rfl) (by kernel_rfl) (by kernel_rfl) (fun _ _ _ h => h) (Or.inl ⟨by rfl, ?_⟩) hHeld ?_
      rotate_left
      · (intro w hSw; (try dsimp only at hSw); go_simp; first | done | with_reducible rfl)
      (try simp only [Act.put, List.setIfInBounds_toArray, List.set_cons_zero, List.set_cons_succ])
      refine wpAnyH_take (i := 0) (v := ?_) rfl (by kernel_rfl) (by kernel_rfl) (by kernel_rfl) (fun _ _ _ h => h) (Or.inl ⟨by rfl, ?_⟩) hHeld ?_
      rotate_left
      · (intro w hSw; (try dsimp only at hSw); go_simp; first | done | with_reducible rfl)
      (try simp only [Act.put, List.setIfInBounds_toArray, List.set_cons_zero, List.set_cons_succ])
      refine wpAnyH_ready (rs := [4]) (by kernel_rfl) (by simp) ?_
      refine AllReadyH.cons rfl (fun K hK => ?_) AllReadyH.nil
      go_simp
      refine (HTk.out _ (HX5.out.below (Below.refl _ _).drew)).mono ?_
      rintro e w6 ⟨rfl, hb6⟩
      have hT6 := HT5.out.drew.after hb6 HT5.out.size
      have HT6 := Lib.hid hT6
      obtain ⟨r0, r1, r2, r3, r4, r5, r6⟩ := blk7 hT6.b3
      obtain ⟨g0, g1, g2, g3, g4, g5, g6⟩ := blkf7 hT6.b3
      clear hb6 hT6
      refine hK.out _ _ HT6.out.reads (fun hHeld => ?_)
      clear hK K
      (try simp only [Act.put, List.setIfInBounds_toArray, List.set_cons_zero, List.set_cons_succ])
      refine wpAnyH_take (i := 5) (v := ?_) rfl (by kernel_rfl) (by kernel_rfl) (by kernel_rfl) (fun _ _ _ h => h) (Or.inl ⟨by rfl, ?_⟩) hHeld ?_
      rotate_left
      · (intro w hSw; (try dsimp only at hSw); go_simp; first | done | with_reducible rfl)
      (try simp only [Act.put, List.setIfInBounds_toArray, List.set_cons_zero, List.set_cons_succ])
      refine wpAnyH_take (i := 6) (v := undef) rfl (by kernel_rfl) (by kernel_rfl) (by kernel_rfl) (fun _ _ _ h => h) (Or.inr ⟨by kernel_rfl, rfl⟩) hHeld ?_
      (try simp only [Act.put, List.setIfInBounds_toArray, List.set_cons_zero, List.set_cons_succ])
      refine wpAnyH_take (i := 7) (v := undef) rfl (by kernel_rfl) (by kernel_rfl) (by kernel_rfl) (fun _ _ _ h => h) (Or.inr ⟨by kernel_rfl, rfl⟩) hHeld ?_
      (try simp only [Act.put, List.setIfInBounds_toArray, List.set_cons_zero, List.set_cons_succ])
      refine wpAnyH_take (i := 8) (v := undef) rfl (by kernel_rfl) (by kernel_rfl) (by kernel_rfl) (fun _ _ _ h => h) (Or.inr ⟨by kernel_rfl, rfl⟩) hHeld ?_
      (try simp only [Act.put, List.setIfInBounds_toArray, List.set_cons_zero, List.set_cons_succ])
      refine wpAnyH_take (i := 9) (v := undef) rfl (by kernel_rfl) (by kernel_rfl) (by kernel_rfl) (fun _ _ _ h => h) (Or.inr ⟨by kernel_rfl, rfl⟩) hHeld ?_
      (try simp only [Act.put, List.setIfInBounds_toArray, List.set_cons_zero, List.set_cons_succ])
      refine wpAnyH_take (i := 10) (v := undef) rfl (by kernel_rfl) (by kernel_rfl) (by kernel_rfl) (fun _ _ _ h => h) (Or.inr ⟨by kernel_rfl, rfl⟩) hHeld ?_
      (try simp only [Act.put, List.setIfInBounds_toArray, List.set_cons_zero, List.set_cons_succ])
      refine wpAnyH_take (i := 11) (v := undef) rfl (by kernel_rfl) (by kernel_rfl) (by kernel_rfl) (fun _ _ _ h => h) (Or.inr ⟨by kernel_rfl, rfl⟩) hHeld ?_
      (try simp only [Act.put, List.setIfInBounds_toArray, List.set_cons_zero, List.set_cons_succ])
      refine wpAnyH_take (i := 12) (v := undef) rfl (by kernel_rfl) (by kernel_rfl) (by kernel_rfl) (fun _ _ _ h => h) (Or.inr ⟨by kernel_rfl, rfl⟩) hHeld ?_
      (try simp only [Act.put, List.setIfInBounds_toArray, List.set_cons_zero, List.set_cons_succ])
      refine wpAnyH_take (i := 13) (v := undef) rfl (by kernel_rfl) (by kernel_rfl) (by kernel_rfl) (fun _ _ _ h => h) (Or.inr ⟨by kernel_rfl, rfl⟩) hHeld ?_
      (try simp only [Act.put, List.setIfInBounds_toArray, List.set_cons_zero, List.set_cons_succ])
      refine wpAnyH_take (i := 14) (v := ?_) rfl (by kernel_rfl) (by kernel_rfl) (by kernel_rfl) (fun _ _ _ h => h) (Or.inl ⟨by rfl, ?_⟩) hHeld ?_
      rotate_left
      · (intro w hSw; (try dsimp only at hSw); go_simp; first | done | with_reducible rfl)
      (try simp only [Act.put, List.setIfInBounds_toArray, List.set_cons_zero, List.set_cons_succ])
      refine wpAnyH_ready (rs := [15]) (by kernel_rfl) (by simp) ?_
      refine AllReadyH.cons rfl (fun K hK => ?_) AllReadyH.nil
      go_simp
      refine hK.out _ _ (HT6.out.put ⟨y.id, y.dir, x.par, x.nm, y.mf⟩).reads (fun hHeld => ?_)
      clear hK K
      (try simp only [Act.put, List.setIfInBounds_toArray, List.set_cons_zero, List.set_cons_succ])
      refine wpAnyH_take (i := 16) (v := ?_) rfl (by kernel_rfl) (by kernel_rfl) (by kernel_rfl) (fun _ _ _ h => h) (Or.inl ⟨by rfl, ?_⟩) hHeld ?_
      rotate_left
      · (intro w hSw; (try dsimp only at hSw); go_simp; first | done | with_reducible rfl)
      (try simp only [Act.put, List.setIfInBounds_toArray, List.set_cons_zero, List.set_cons_succ])
      refine wpAnyH_done (by kernel_rfl) ?_ _
      refine NoPanic.normal ?_
      have hP := HT6.out.put ⟨y.id, y.dir, x.par, x.nm, y.mf⟩
      obtain ⟨t0, t1, t2, t3, t4, t5, t6⟩ := blk7 hP.b3
      have hz0 := hP.below
      unfold put7 at hz0 t0 t1 t2 t3 t4 t5 t6
      have HZ := Lib.hid hz0
      clear hP hz0 r0 r1 r2 r3 r4 r5 r6 g0 g1 g2 g3 g4 g5 g6
      go_wp2_with fail
      exact bodyPost_ret (v := .tuple #[.agg #[.int .i64 y.id.1, .int .i64 y.id.2, .bool y.dir, .int .i64 x.par.1, .int .i64 x.par.2, .string (bs x.nm), .string (bs y.mf)], .bool false]) (by simp [results, Try.results49, go_sem, t0, t1, t2, t3, t4, t5, t6]) rfl ⟨by rw [HTt.out, Bool.false_and], HZ.out⟩
  · have e2 : (x.kind == 2) = false := by simpa using h2
    rw [if_neg h2, if_neg h3, if_neg h4]
    clear h2 h3 h4
    obtain ⟨z0, hz0⟩ := HT.out.last
    obtain ⟨t0, t1, t2, t3, t4, t5, t6⟩ := blk7 z0
    unfold put7 at hz0 t0 t1 t2 t3 t4 t5 t6
    have HZ := Lib.hid hz0
    clear z0 hz0
    go_enter Try.func49, Try.ntmps49
    go_upto_region 1 with (fail)
    rw [← HW.out, ← HQ.out.2.2, ← HQ.out.2.1, ← HQ.out.1]
    go_wp2_with fail
    exact bodyPost_ret (v := .tuple #[.agg #[.int .i64 y.id.1, .int .i64 y.id.2, .bool y.dir, .int .i64 y.par.1, .int .i64 y.par.2, .string (bs y.nm), .string (bs y.mf)], .bool false]) (by simp [results, Try.results49, go_sem, t0, t1, t2, t3, t4, t5, t6]) rfl ⟨rfl, HZ.out⟩
end Go.Proofs.Ytaglomhmnoldlaa
