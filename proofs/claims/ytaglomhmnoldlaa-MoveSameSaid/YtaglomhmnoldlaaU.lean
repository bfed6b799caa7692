/- Do, walked. -/
import Derived.Test.YtaglomhmnoldlaaT
namespace Go.Proofs.Ytaglomhmnoldlaa
open Go.RowKit
attribute [local go_sem] bs_size bs_getElem bs_list bs_append

/-- what Do has at hand -/
structure DoR (B q1 : Nat) (w0 w : World) (x : TOp) (A : Option Addr) (n c : Nat) (xs : List Nd) : Prop where
  b1 : Blk w q1 31 (oc x).toArray
  nds : Nds w A n c xs
  below : Below B w0 w
  h1 : B ≤ q1
theorem DoR.size {B q1 : Nat} {w0 w : World} {x : TOp} {A : Option Addr} {n c : Nat} {xs : List Nd} (h : DoR B q1 w0 w x A n c xs) : B ≤ w.heap.size := Nat.le_of_lt (Nat.lt_of_le_of_lt h.h1 h.b1.lt)
theorem DoR.after {B q1 : Nat} {w0 w w' : World} {x : TOp} {A : Option Addr} {n c : Nat} {xs : List Nd} (h : DoR B q1 w0 w x A n c xs) (hb : Below w.heap.size w w') : DoR B q1 w0 w' x A n c xs :=
  ⟨h.b1.below hb h.b1.lt, h.nds.below hb, h.below.trans (hb.mono h.size), h.h1⟩
theorem DoR.drew {B q1 : Nat} {w0 w : World} {x : TOp} {A : Option Addr} {n c : Nat} {xs : List Nd} (h : DoR B q1 w0 w x A n c xs) : DoR B q1 w0 w.drew x A n c xs := h.after (Below.refl _ _).drew
theorem DoR.alloc {B q1 : Nat} {w0 w : World} {x : TOp} {A : Option Addr} {n c : Nat} {xs : List Nd} (h : DoR B q1 w0 w x A n c xs) (o : Obj) : DoR B q1 w0 (w.alloc o) x A n c xs := h.after ((Below.refl _ _).alloc (Nat.le_refl _) o)
theorem DoR.start (w : World) (x : TOp) (A : Option Addr) (n c : Nat) (xs : List Nd) (hx : Nds w A n c xs) : DoR w.heap.size w.heap.size w (w.alloc (.cells (oc x).toArray 31)) x A n c xs :=
  ⟨Blk.new _ _ _, hx.below ((Below.refl _ _).alloc (Nat.le_refl _) _), (Below.refl _ _).alloc (Nat.le_refl _) _, Nat.le_refl _⟩
/-- what stands behind Do -/
def Done (w : World) (ys : List Nd) (e : Ending) (w' : World) : Prop := ∃ A c, e = .returned (.slice A ys.length c) ∧ Nds w' A ys.length c ys ∧ Below w.heap.size w w'
theorem Done.same {w w' : World} {q1 : Nat} {x : TOp} {A : Option Addr} {n c : Nat} {xs : List Nd} (h : DoR w.heap.size q1 w w' x A n c xs) : Done w xs (.returned (.slice A n c)) w' := by
  have := h.nds.len
  subst this
  exact ⟨A, c, rfl, h.nds, h.below⟩
theorem Done.own {w w' : World} {ys : List Nd} {v : Value} {B : Nat} (h : Own w' B v ys) (hs : Short ys) (hb : Below w.heap.size w w') : Done w ys (.returned v) w' := by
  obtain ⟨A, c, rfl, hn⟩ := h.nds hs
  exact ⟨A, c, rfl, hn, hb⟩

/-- put7, spelled out -/
theorem below_seven {B0 : Nat} {w0 w : World} (h : Below B0 w0 w) {B : Nat} (hB : B0 ≤ B) (x : Nd) : Below B0 w0 (((((((w.setCell ⟨B, 0, none⟩ (.int .i64 x.id.1)).setCell ⟨B, 1, none⟩ (.int .i64 x.id.2)).setCell ⟨B, 2, none⟩ (.bool x.dir)).setCell ⟨B, 3, none⟩ (.int .i64 x.par.1)).setCell ⟨B, 4, none⟩ (.int .i64 x.par.2)).setCell ⟨B, 5, none⟩ (.string (bs x.nm))).setCell ⟨B, 6, none⟩ (.string (bs x.mf))) := below_put7 h hB x
theorem blk_seven {w : World} {B : Nat} {y : Nd} (x : Nd) (h : Blk w B 38 (nc y).toArray) : Blk (((((((w.setCell ⟨B, 0, none⟩ (.int .i64 x.id.1)).setCell ⟨B, 1, none⟩ (.int .i64 x.id.2)).setCell ⟨B, 2, none⟩ (.bool x.dir)).setCell ⟨B, 3, none⟩ (.int .i64 x.par.1)).setCell ⟨B, 4, none⟩ (.int .i64 x.par.2)).setCell ⟨B, 5, none⟩ (.string (bs x.nm))).setCell ⟨B, 6, none⟩ (.string (bs x.mf))) B 38 (nc x).toArray := blk_put7 x h

set_option maxRecDepth 100000 in
set_option maxHeartbeats 3200000 in
theorem do_any (x : TOp) (A : Option Addr) (n c : Nat) (xs : List Nd) (w : World) (hx : Nds w A n c xs) (hop : OpS x) (hm : n ≤ 100000) :
    Calls Try.prog 36 #[.slice A n c, ov x] w (Done w (doN xs x)) := by
  have hn := hx.len
  have hmx := hx.max
  have hle := hx.le
  have hsh := hx.short
  have hD1 := DoR.start w x A n c xs hx
  obtain ⟨w1, hw1⟩ : ∃ w1, w1 = w.alloc (.cells (oc x).toArray 31) := ⟨_, rfl⟩
  obtain ⟨q1, hq1⟩ : ∃ q1, q1 = w.heap.size := ⟨_, rfl⟩
  have hD1 : DoR w.heap.size q1 w w1 x A n c xs := by rw [hq1, hw1]; exact hD1
  have HP := Lib.hid (place_any x.node A n c xs w1 hD1.nds)
  have HW := Lib.hid (show w1 = w.alloc (.cells #[.int .i64 x.st.1, .int .i64 x.st.2, .int .i64 x.seq, .int .i64 x.kind, .int .i64 x.node.1, .int .i64 x.node.2, .bool x.dir, .int .i64 x.par.1, .int .i64 x.par.2, .string (bs x.nm), .string (bs x.mf)] 31) from hw1)
  have HQ := Lib.hid hq1
  have HD1 := Lib.hid hD1
  have HSh := Lib.hid hsh
  have HOp := Lib.hid hop
  obtain ⟨o0, o1, o2, o3, o4, o5, o6, o7, o8, o9, o10⟩ := blk11 hD1.b1
  clear hD1 hw1 hq1 hsh hop
  unfold ov sv at *
  obtain ⟨ys, hys⟩ : ∃ ys, ys = doN xs x := ⟨_, rfl⟩
  rw [← hys]
  rcases firstI_cases (isId x.node) xs with ⟨k, hk, hfk, hp⟩ | ⟨hfk, hall⟩
  · rw [hfk] at HP
    rw [doN_at hk hfk] at hys
    have hk0 : decide ((k : Int) < 0) = false := decide_eq_false (by omega)
    have hkn : (k : Int) < (n : Int) := by omega
    by_cases h1 : x.kind = 1
    · have e1 : (x.kind == 1) = true := by rw [h1]; rfl
      rw [if_pos h1] at hys
      have HY := Lib.hid hys
      clear hys h1 hfk hp
      go_enter Try.func36, Try.ntmps36
      go_upto_region 1 with (fail)
      rw [← HW.out, ← HQ.out]
      go_wp2_with fail
      refine HP.out.mono ?_
      rintro e w2 ⟨rfl, hb2⟩
      have HD2 := Lib.hid (HD1.out.after hb2)
      obtain ⟨o0, o1, o2, o3, o4, o5, o6, o7, o8, o9, o10⟩ := blk11 HD2.out.b1
      clear hb2
      go_wp2_with fail
      go_ret
      rw [HY.out]
      exact Done.same HD2.out
    · have e1 : (x.kind == 1) = false := by simpa using h1
      rw [if_neg h1] at hys
      have HY := Lib.hid hys
      clear hys h1 hfk hp
      go_enter Try.func36, Try.ntmps36
      go_upto_region 1 with (fail)
      rw [← HW.out, ← HQ.out]
      go_wp2_with fail
      refine HP.out.mono ?_
      rintro e w2 ⟨rfl, hb2⟩
      have HD2 := Lib.hid (HD1.out.after hb2)
      clear o0 o1 o2 o3 o4 o5 o6 o7 o8 o9 o10
      obtain ⟨o0, o1, o2, o3, o4, o5, o6, o7, o8, o9, o10⟩ := blk11 HD2.out.b1
      clear hb2
      obtain ⟨b, off, rfl, hbl, c0, c1, c2, c3, c4, c5, c6, m1, m2⟩ := Nds.at_ HD2.out.nds hk
      have hys' := HY.out
      generalize hyk : xs[k] = y at *
      have HYk := Lib.hid hyk
      have HT := Lib.hid (fun (w' : World) (h : Nds w' (some ⟨b, off, none⟩) n c xs) => turned_any y x (some ⟨b, off, none⟩) n c xs w' h hm)
      have HTs := Lib.hid (turnP_short (xs := xs) HOp.out (show y.nm.length ≤ 9223372036854775807 ∧ y.mf.length ≤ 9223372036854775807 from ⟨m1, m2⟩))
      generalize (turnP xs x y).1 = z at *
      generalize (turnP xs x y).2 = ok at *
      have HYs := Lib.hid hys'
      have hS : ∀ w', Below w2.heap.size w2 w' → w'.cell? ⟨b, off + k * 7, none⟩ = some (.int .i64 y.id.1) ∧ w'.cell? ⟨b, off + k * 7 + 1, none⟩ = some (.int .i64 y.id.2) ∧ w'.cell? ⟨b, off + k * 7 + 2, none⟩ = some (.bool y.dir) ∧
          w'.cell? ⟨b, off + k * 7 + 3, none⟩ = some (.int .i64 y.par.1) ∧ w'.cell? ⟨b, off + k * 7 + 4, none⟩ = some (.int .i64 y.par.2) ∧ w'.cell? ⟨b, off + k * 7 + 5, none⟩ = some (.string (bs y.nm)) ∧ w'.cell? ⟨b, off + k * 7 + 6, none⟩ = some (.string (bs y.mf)) ∧
          w'.cell? ⟨q1, 0, none⟩ = some (.int .i64 x.st.1) ∧ w'.cell? ⟨q1, 1, none⟩ = some (.int .i64 x.st.2) ∧ w'.cell? ⟨q1, 2, none⟩ = some (.int .i64 x.seq) ∧ w'.cell? ⟨q1, 3, none⟩ = some (.int .i64 x.kind) ∧ w'.cell? ⟨q1, 4, none⟩ = some (.int .i64 x.node.1) ∧ w'.cell? ⟨q1, 5, none⟩ = some (.int .i64 x.node.2) ∧ w'.cell? ⟨q1, 6, none⟩ = some (.bool x.dir) ∧ w'.cell? ⟨q1, 7, none⟩ = some (.int .i64 x.par.1) ∧ w'.cell? ⟨q1, 8, none⟩ = some (.int .i64 x.par.2) ∧ w'.cell? ⟨q1, 9, none⟩ = some (.string (bs x.nm)) ∧ w'.cell? ⟨q1, 10, none⟩ = some (.string (bs x.mf)) := fun w' hb => by
        have hq := HD2.out.b1.lt
        exact ⟨cell_below hb hbl c0, cell_below hb hbl c1, cell_below hb hbl c2, cell_below hb hbl c3, cell_below hb hbl c4, cell_below hb hbl c5, cell_below hb hbl c6, cell_below hb hq o0, cell_below hb hq o1, cell_below hb hq o2, cell_below hb hq o3, cell_below hb hq o4, cell_below hb hq o5, cell_below hb hq o6, cell_below hb hq o7, cell_below hb hq o8, cell_below hb hq o9, cell_below hb hq o10⟩
      have HS := Lib.hid hS
      clear hS hys' hyk m1 m2 HY
      unfold nv ov at HT
      go_upto_region 9 with (fail)
      clear c0 c1 c2 c3 c4 c5 c6 o0 o1 o2 o3 o4 o5 o6 o7 o8 o9 o10
      go_region_held3 (fun w' => w'.cell? ⟨b, off + k * 7, none⟩ = some (.int .i64 y.id.1) ∧ w'.cell? ⟨b, off + k * 7 + 1, none⟩ = some (.int .i64 y.id.2) ∧ w'.cell? ⟨b, off + k * 7 + 2, none⟩ = some (.bool y.dir) ∧
          w'.cell? ⟨b, off + k * 7 + 3, none⟩ = some (.int .i64 y.par.1) ∧ w'.cell? ⟨b, off + k * 7 + 4, none⟩ = some (.int .i64 y.par.2) ∧ w'.cell? ⟨b, off + k * 7 + 5, none⟩ = some (.string (bs y.nm)) ∧ w'.cell? ⟨b, off + k * 7 + 6, none⟩ = some (.string (bs y.mf)) ∧
          w'.cell? ⟨q1, 0, none⟩ = some (.int .i64 x.st.1) ∧ w'.cell? ⟨q1, 1, none⟩ = some (.int .i64 x.st.2) ∧ w'.cell? ⟨q1, 2, none⟩ = some (.int .i64 x.seq) ∧ w'.cell? ⟨q1, 3, none⟩ = some (.int .i64 x.kind) ∧ w'.cell? ⟨q1, 4, none⟩ = some (.int .i64 x.node.1) ∧ w'.cell? ⟨q1, 5, none⟩ = some (.int .i64 x.node.2) ∧ w'.cell? ⟨q1, 6, none⟩ = some (.bool x.dir) ∧ w'.cell? ⟨q1, 7, none⟩ = some (.int .i64 x.par.1) ∧ w'.cell? ⟨q1, 8, none⟩ = some (.int .i64 x.par.2) ∧ w'.cell? ⟨q1, 9, none⟩ = some (.string (bs x.nm)) ∧ w'.cell? ⟨q1, 10, none⟩ = some (.string (bs x.mf)))
        (with_reducible first | exact HS.out _ HBc.out | exact HS.out _ (HBc.out.alloc HBc.out.size _) | exact HS.out _ (below_seven HBc.out (Nat.le_refl _) z) | exact HS.out _ (below_seven (HBc.out.alloc HBc.out.size _) HBc.out.size z) | exact HS.out _ (Below.refl _ _).drew | exact HS.out _ ((Below.refl _ _).alloc (Nat.le_refl _) _).drew | exact HS.out _ ((Below.refl _ _).alloc (Nat.le_refl _) _))
        (first
          | (go_at_call 49; (with_reducible refine (HT.out _ (HD2.out.drew.nds)).mono ?_); rintro e w3 ⟨rfl, hb3⟩; have HBc := Lib.hid ((Below.refl w2.heap.size w2).drew.trans hb3); clear hb3)
          | (go_at_call 49; (with_reducible refine (HT.out _ ((HD2.out.alloc (.cells #[.int .i64 0, .int .i64 0, .bool false, .int .i64 0, .int .i64 0, .string ⟨#[]⟩, .string ⟨#[]⟩] 38)).drew.nds)).mono ?_); rintro e w3 ⟨rfl, hb3⟩; have HBc := Lib.hid (((Below.refl w2.heap.size w2).alloc (Nat.le_refl _) (.cells (nc nd0).toArray 38)).drew.trans (hb3.mono (by simp))); have hZ := Blk.below (Blk.drew (Blk.new w2 38 (nc nd0).toArray)) hb3 (by simp); obtain ⟨r0, r1, r2, r3, r4, r5, r6⟩ := blk7 hZ; obtain ⟨g0, g1, g2, g3, g4, g5, g6⟩ := blkf7 hZ; have HZ := Lib.hid hZ; clear hZ hb3))
      · have hB4 := HBc.out.alloc HBc.out.size (.cells (nc z).toArray 38)
        have hZ4 := Blk.new w3 38 (nc z).toArray
        obtain ⟨w4, hw4⟩ : ∃ w4, w4 = w3.alloc (.cells #[.int .i64 z.id.1, .int .i64 z.id.2, .bool z.dir, .int .i64 z.par.1, .int .i64 z.par.2, .string (bs z.nm), .string (bs z.mf)] 38) := ⟨_, rfl⟩
        obtain ⟨q2, hq2⟩ : ∃ q2, q2 = w3.heap.size := ⟨_, rfl⟩
        have hB4 : Below w2.heap.size w2 w4 := by rw [hw4]; exact hB4
        have hZ4 : Blk w4 q2 38 (nc z).toArray := by rw [hw4, hq2]; exact hZ4
        rw [← hw4, ← hq2]
        have HB4 := Lib.hid hB4
        have HZ4 := Lib.hid hZ4
        clear hw4 hq2 hB4 hZ4 HBc
        cases ok with
        | false =>
          go_wp2_with fail
          go_ret
          have HYf : RowKit.Hid (ys = xs) := by show ys = _; rw [HYs.out, if_neg (by decide)]
          rw [HYf.out]
          exact Done.same (HD2.out.after HB4.out)
        | true =>
          have HYf : RowKit.Hid (ys = xs.set k z) := by show ys = _; rw [HYs.out, if_pos rfl]
          have HD4 := Lib.hid (HD2.out.after HB4.out)
          clear HYs
          go_wp2_with fail
          refine (clone_any (some ⟨b, off, none⟩) n c xs w4 HD4.out.nds (by omega)).mono ?_
          rintro e w5 ⟨v5, rfl, hO5, hb5⟩
          unfold Own at hO5
          rw [hn] at hO5
          have hZ5 := Blk.below HZ4.out hb5 HZ4.out.lt
          obtain ⟨g, cap, rfl, hg, hlt, hnc, hcm, hx5, hf5⟩ := OwnC.form hO5 (by omega)
          have hci := fun j (hj : j < 7) => hx5 (k * 7 + j) ((nc xs[k])[j]'hj) (by rw [ncs_at xs k j hk hj, List.getElem?_eq_getElem (by exact hj)])
          have hcf := fun j (hj : j < 7) => hf5 (k * 7 + j) (by omega)
          have d0 := hci 0 (by decide)
          have d1 := hci 1 (by decide)
          have d2 := hci 2 (by decide)
          have d3 := hci 3 (by decide)
          have d4 := hci 4 (by decide)
          have d5 := hci 5 (by decide)
          have d6 := hci 6 (by decide)
          have f0 := hcf 0 (by decide)
          have f1 := hcf 1 (by decide)
          have f2 := hcf 2 (by decide)
          have f3 := hcf 3 (by decide)
          have f4 := hcf 4 (by decide)
          have f5 := hcf 5 (by decide)
          have f6 := hcf 6 (by decide)
          simp only [Nat.add_zero] at d0 f0
          obtain ⟨c0, c1, c2, c3, c4, c5, c6⟩ := blk7 hZ5
          have hfin := Own.set_ hn hO5 k (by omega) z
          have hbf : Below w.heap.size w (put7at w5 g (k * 7) z) := below_gb (HD4.out.below.trans (hb5.mono HD4.out.size)) hfin.2 (Nat.le_trans HD4.out.size hg) (Nat.le_trans HD4.out.size hb5.size)
          have HF : RowKit.Hid (Done w ys (.returned (.slice (some ⟨g, 0, none⟩) n cap)) (put7at w5 g (k * 7) z)) := by
            rw [HYf.out]
            have h1 := hfin.1
            have hl : (xs.set k z).length = n := by rw [List.length_set, hn]
            refine Done.own (B := w4.heap.size) (ys := xs.set k z) ?_ (set_short HSh.out HTs.out k) hbf
            unfold Own
            rw [hl]
            exact h1
          unfold put7at at HF
          have hne : g ≠ q2 := by have := HZ4.out.lt; omega
          have hne2 : q2 ≠ g := hne.symm
          clear hfin hbf hci hcf hx5 hf5 hO5 hZ5 hb5 hg hlt hnc hcm
          go_wp2_with fail
          go_ret
          exact HF.out
      · have hB4 := below_seven HBc.out (Nat.le_refl _) z
        have hZ4 := blk_seven z HZ.out
        obtain ⟨w4, hw4⟩ : ∃ w4, w4 = (((((((w3.setCell ⟨w2.heap.size, 0, none⟩ (.int .i64 z.id.1)).setCell ⟨w2.heap.size, 1, none⟩ (.int .i64 z.id.2)).setCell ⟨w2.heap.size, 2, none⟩ (.bool z.dir)).setCell ⟨w2.heap.size, 3, none⟩ (.int .i64 z.par.1)).setCell ⟨w2.heap.size, 4, none⟩ (.int .i64 z.par.2)).setCell ⟨w2.heap.size, 5, none⟩ (.string (bs z.nm))).setCell ⟨w2.heap.size, 6, none⟩ (.string (bs z.mf))) := ⟨_, rfl⟩
        obtain ⟨q2, hq2⟩ : ∃ q2, q2 = w2.heap.size := ⟨_, rfl⟩
        rw [← hw4] at hB4 hZ4
        rw [← hq2] at hZ4
        rw [← hw4, ← hq2]
        clear r0 r1 r2 r3 r4 r5 r6 g0 g1 g2 g3 g4 g5 g6 HZ
        have HB4 := Lib.hid hB4
        have HZ4 := Lib.hid hZ4
        clear hw4 hq2 hB4 hZ4 HBc
        cases ok with
        | false =>
          go_wp2_with fail
          go_ret
          have HYf : RowKit.Hid (ys = xs) := by show ys = _; rw [HYs.out, if_neg (by decide)]
          rw [HYf.out]
          exact Done.same (HD2.out.after HB4.out)
        | true =>
          have HYf : RowKit.Hid (ys = xs.set k z) := by show ys = _; rw [HYs.out, if_pos rfl]
          have HD4 := Lib.hid (HD2.out.after HB4.out)
          clear HYs
          go_wp2_with fail
          refine (clone_any (some ⟨b, off, none⟩) n c xs w4 HD4.out.nds (by omega)).mono ?_
          rintro e w5 ⟨v5, rfl, hO5, hb5⟩
          unfold Own at hO5
          rw [hn] at hO5
          have hZ5 := Blk.below HZ4.out hb5 HZ4.out.lt
          obtain ⟨g, cap, rfl, hg, hlt, hnc, hcm, hx5, hf5⟩ := OwnC.form hO5 (by omega)
          have hci := fun j (hj : j < 7) => hx5 (k * 7 + j) ((nc xs[k])[j]'hj) (by rw [ncs_at xs k j hk hj, List.getElem?_eq_getElem (by exact hj)])
          have hcf := fun j (hj : j < 7) => hf5 (k * 7 + j) (by omega)
          have d0 := hci 0 (by decide)
          have d1 := hci 1 (by decide)
          have d2 := hci 2 (by decide)
          have d3 := hci 3 (by decide)
          have d4 := hci 4 (by decide)
          have d5 := hci 5 (by decide)
          have d6 := hci 6 (by decide)
          have f0 := hcf 0 (by decide)
          have f1 := hcf 1 (by decide)
          have f2 := hcf 2 (by decide)
          have f3 := hcf 3 (by decide)
          have f4 := hcf 4 (by decide)
          have f5 := hcf 5 (by decide)
          have f6 := hcf 6 (by decide)
          simp only [Nat.add_zero] at d0 f0
          obtain ⟨c0, c1, c2, c3, c4, c5, c6⟩ := blk7 hZ5
          have hfin := Own.set_ hn hO5 k (by omega) z
          have hbf : Below w.heap.size w (put7at w5 g (k * 7) z) := below_gb (HD4.out.below.trans (hb5.mono HD4.out.size)) hfin.2 (Nat.le_trans HD4.out.size hg) (Nat.le_trans HD4.out.size hb5.size)
          have HF : RowKit.Hid (Done w ys (.returned (.slice (some ⟨g, 0, none⟩) n cap)) (put7at w5 g (k * 7) z)) := by
            rw [HYf.out]
            have h1 := hfin.1
            have hl : (xs.set k z).length = n := by rw [List.length_set, hn]
            refine Done.own (B := w4.heap.size) (ys := xs.set k z) ?_ (set_short HSh.out HTs.out k) hbf
            unfold Own
            rw [hl]
            exact h1
          unfold put7at at HF
          have hne : g ≠ q2 := by have := HZ4.out.lt; omega
          have hne2 : q2 ≠ g := hne.symm
          clear hfin hbf hci hcf hx5 hf5 hO5 hZ5 hb5 hg hlt hnc hcm
          go_wp2_with fail
          go_ret
          exact HF.out
  · rw [hfk] at HP
    rw [doN_no hfk] at hys
    have hk0 : decide ((-1 : Int) < 0) = true := by decide
    by_cases h1 : x.kind = 1
    · have e1 : (x.kind == 1) = true := by rw [h1]; rfl
      rw [if_pos h1] at hys
      have HY := Lib.hid hys
      clear hys h1 hfk hall
      go_enter Try.func36, Try.ntmps36
      go_upto_region 1 with (fail)
      rw [← HW.out, ← HQ.out]
      go_wp2_with fail
      refine HP.out.mono ?_
      rintro e w2 ⟨rfl, hb2⟩
      have HD2 := Lib.hid (HD1.out.after hb2)
      clear o0 o1 o2 o3 o4 o5 o6 o7 o8 o9 o10
      obtain ⟨o0, o1, o2, o3, o4, o5, o6, o7, o8, o9, o10⟩ := blk11 HD2.out.b1
      clear hb2
      go_upto_region 4 with (fail)
      obtain ⟨y0, hy0⟩ : ∃ y0 : Nd, y0 = ⟨x.node, x.dir, x.par, x.nm, x.mf⟩ := ⟨_, rfl⟩
      have hD3 := HD2.out.alloc (.cells (nc y0).toArray 38)
      have hB3 := Blk.new w2 38 (nc y0).toArray
      have hsz := HD2.out.size
      obtain ⟨w3, hw3⟩ : ∃ w3, w3 = w2.alloc (.cells (nc y0).toArray 38) := ⟨_, rfl⟩
      obtain ⟨q2, hq2⟩ : ∃ q2, q2 = w2.heap.size := ⟨_, rfl⟩
      rw [← hw3, ← hq2] at hB3
      rw [← hw3] at hD3
      rw [← hq2] at hsz
      have hw3' : w3 = w2.alloc (.cells #[.int .i64 x.node.1, .int .i64 x.node.2, .bool x.dir, .int .i64 x.par.1, .int .i64 x.par.2, .string (bs x.nm), .string (bs x.mf)] 38) := by rw [hw3, hy0]; rfl
      rw [← hw3', ← hq2]
      have HD3 := Lib.hid hD3
      have HB3 := Lib.hid hB3
      have HSz := Lib.hid hsz
      have HY0 := Lib.hid hy0
      have HTk := Lib.hid (takes_any x.par A n c xs w3 hD3.nds)
      unfold sv at HTk
      obtain ⟨c0, c1, c2, c3, c4, c5, c6⟩ := blk7 (hy0 ▸ hB3)
      clear hD3 hB3 hsz hw3 hw3' hq2 o0 o1 o2 o3 o4 o5 o6 o7 o8 o9 o10
      clear hy0
      have hoy : y0.nm.length ≤ 9223372036854775807 ∧ y0.mf.length ≤ 9223372036854775807 := by rw [HY0.out]; exact HOp.out
      have HOy := Lib.hid hoy
      clear hoy
      cases ht : takesB x.par xs with
      | true =>
        rw [ht] at HTk
        have HYt : RowKit.Hid (ys = growN xs y0) := by show ys = _; rw [HY.out, if_pos ht, HY0.out]
        clear ht HY
        go_wp2_with fail
        refine HTk.out.mono ?_
        rintro e w4 ⟨rfl, hb4⟩
        have hB4 := Blk.below HB3.out hb4 HB3.out.lt
        have HD4 := Lib.hid (HD3.out.after hb4)
        clear hb4 c0 c1 c2 c3 c4 c5 c6
        obtain ⟨c0, c1, c2, c3, c4, c5, c6⟩ := blk7 hB4
        clear hB4
        have HG := Lib.hid (grown_any y0 A n c xs w4 HD4.out.nds hm)
        unfold nv at HG
        go_wp2_with fail
        refine HG.out.mono ?_
        rintro e w5 ⟨v5, rfl, hO5, hb5⟩
        have HF : RowKit.Hid (Done w ys (.returned v5) w5) := by
          rw [HYt.out]
          exact Done.own hO5 (growN_short HSh.out HOy.out) (HD4.out.below.trans (hb5.mono HD4.out.size))
        clear hO5 hb5
        go_wp2_with fail
        go_ret
        exact HF.out
      | false =>
        rw [ht] at HTk
        have HYt : RowKit.Hid (ys = growN xs { y0 with par := (0, 1) }) := by show ys = _; rw [HY.out, if_neg (by rw [ht]; decide), HY0.out]
        clear ht HY
        go_wp2_with fail
        refine HTk.out.mono ?_
        rintro e w4 ⟨rfl, hb4⟩
        have HB4 := Lib.hid (Blk.below HB3.out hb4 HB3.out.lt)
        have HD4 := Lib.hid (HD3.out.after hb4)
        clear hb4 c0 c1 c2 c3 c4 c5 c6
        go_wp2_with fail
        refine (trash_st w4).mono ?_
        rintro e w6 ⟨rfl, hb6⟩
        have hB6 := Blk.below HB4.out hb6 HB4.out.lt
        have hD6 := HD4.out.after hb6
        have HB6 := Lib.hid hB6
        have HD6 := Lib.hid hD6
        obtain ⟨c0, c1, c2, c3, c4, c5, c6⟩ := blk7 hB6
        obtain ⟨f0, f1, f2, f3, f4, f5, f6⟩ := blkf7 hB6
        clear hb6 hB6 hD6
        go_upto_region 6 with (fail)
        have hB7 : Blk ((w6.setCell ⟨q2, 3, none⟩ (.int .i64 0)).setCell ⟨q2, 4, none⟩ (.int .i64 1)) q2 38 (nc { y0 with par := (0, 1) }).toArray := by
          have := Blk.set_ (Blk.set_ HB6.out 3 (.int .i64 0)) 4 (.int .i64 1)
          simpa [nc] using this
        have hb7 : Below w.heap.size w ((w6.setCell ⟨q2, 3, none⟩ (.int .i64 0)).setCell ⟨q2, 4, none⟩ (.int .i64 1)) :=
          (HD6.out.below.setCell (p := ⟨q2, 3, none⟩) HSz.out _).setCell (p := ⟨q2, 4, none⟩) HSz.out _
        have hs7 : w.heap.size ≤ ((w6.setCell ⟨q2, 3, none⟩ (.int .i64 0)).setCell ⟨q2, 4, none⟩ (.int .i64 1)).heap.size := by simpa [World.setCell] using HD6.out.size
        obtain ⟨w7, hw7⟩ : ∃ w7, w7 = (w6.setCell ⟨q2, 3, none⟩ (.int .i64 0)).setCell ⟨q2, 4, none⟩ (.int .i64 1) := ⟨_, rfl⟩
        rw [← hw7] at hB7 hb7 hs7
        rw [← hw7]
        have HX7 := Lib.hid (hx.below hb7)
        have HB7 := Lib.hid hb7
        have HS7 := Lib.hid hs7
        clear hw7 hb7 hs7 c0 c1 c2 c3 c4 c5 c6 f0 f1 f2 f3 f4 f5 f6 hx
        obtain ⟨c0, c1, c2, c3, c4, c5, c6⟩ := blk7 hB7
        clear hB7
        have HG := Lib.hid (grown_any { y0 with par := (0, 1) } A n c xs w7 HX7.out hm)
        unfold nv at HG
        go_wp2_with fail
        refine HG.out.mono ?_
        rintro e w5 ⟨v5, rfl, hO5, hb5⟩
        have HF : RowKit.Hid (Done w ys (.returned v5) w5) := by
          rw [HYt.out]
          exact Done.own hO5 (growN_short HSh.out HOy.out) (HB7.out.trans (hb5.mono HS7.out))
        clear hO5 hb5
        go_wp2_with fail
        go_ret
        exact HF.out
    · have e1 : (x.kind == 1) = false := by simpa using h1
      rw [if_neg h1] at hys
      have HY := Lib.hid hys
      clear hys h1 hfk hall
      go_enter Try.func36, Try.ntmps36
      go_upto_region 1 with (fail)
      rw [← HW.out, ← HQ.out]
      go_wp2_with fail
      refine HP.out.mono ?_
      rintro e w2 ⟨rfl, hb2⟩
      have HD2 := Lib.hid (HD1.out.after hb2)
      obtain ⟨o0, o1, o2, o3, o4, o5, o6, o7, o8, o9, o10⟩ := blk11 HD2.out.b1
      clear hb2
      go_wp2_with fail
      go_ret
      rw [HY.out]
      exact Done.same HD2.out
end Go.Proofs.Ytaglomhmnoldlaa
