/- next: Move; all kinds. -/
import Derived.Test.YtaglomhmnoldlaaSm
namespace Go.Proofs.Ytaglomhmnoldlaa
set_option linter.unusedSimpArgs false
set_option linter.unusedVariables false
open Go.RowKit
attribute [local go_sem] bs_size bs_getElem bs_list bs_append

/-- what the region of Move reads -/
theorem mkS {B q4 q6 : Nat} {w0 : World} {z y : Nd} {x : TOp} {y0 : Nd} {made : Bool} {g o : Nat} (W : World) (had : Bool) (h : Nx B q4 q6 w0 W z ⟨y.id, y.dir, x.par, x.nm, y.mf⟩) (hr : RecAt W g o ⟨x, y0, had, made⟩) :
    W.cell? ⟨q6, 0, none⟩ = some (.int .i64 y.id.1) ∧ W.cell? ⟨q6, 1, none⟩ = some (.int .i64 y.id.2) ∧ W.cell? ⟨q6, 2, none⟩ = some (.bool y.dir) ∧ W.cell? ⟨q6, 3, none⟩ = some (.int .i64 x.par.1) ∧ W.cell? ⟨q6, 4, none⟩ = some (.int .i64 x.par.2) ∧ W.cell? ⟨q6, 5, none⟩ = some (.string (bs x.nm)) ∧ W.cell? ⟨q6, 6, none⟩ = some (.string (bs y.mf)) ∧
          W.cell? ⟨g, o + 4, none⟩ = some (.int .i64 x.node.1) ∧ W.cell? ⟨g, o + 5, none⟩ = some (.int .i64 x.node.2) ∧ W.cell? ⟨g, o + 7, none⟩ = some (.int .i64 x.par.1) ∧ W.cell? ⟨g, o + 8, none⟩ = some (.int .i64 x.par.2) ∧ W.cell? ⟨g, o + 18, none⟩ = some (.bool had) :=
  ⟨h.b6.cell 0, h.b6.cell 1, h.b6.cell 2, h.b6.cell 3, h.b6.cell 4, h.b6.cell 5, h.b6.cell 6, hr.2 4 _ rfl, hr.2 5 _ rfl, hr.2 7 _ rfl, hr.2 8 _ rfl, hr.2 18 _ rfl⟩

set_option maxRecDepth 100000 in
set_option maxHeartbeats 6400000 in
theorem next_move (x : TOp) (y : Nd) (had made : Bool) (h2 : x.kind = 2) (g o p m : Nat) (v : Value) (r : Int) (es : List Nd) (w : World) (hd : RecAt w g o ⟨x, y, had, made⟩) (h : Stt w p m v r es) (hm : es.length ≤ 1000000) :
    Calls Try.prog 40 #[.pointer (some ⟨p, 0, none⟩), .pointer (some ⟨g, o, none⟩)] w fun e w' =>
      e = .returned (.tuple #[nv (nextP es x y had).1, .bool (nextP es x y had).2]) ∧ Below w.heap.size w w' := by
  obtain ⟨w2, q4, q6, hw2, hq4, hq6, hN⟩ := next_start y w
  have hd2 := hd.below (w' := w2) ((Below.refl _ _).trans (hN.below.mono (Nat.le_refl _)))
  have HN := Lib.hid hN
  have HS := Lib.hid (h.below (w' := w2) hN.below)
  have HR := Lib.hid hd2
  have HD0 := Lib.hid hd
  have HS0 := Lib.hid h
  obtain ⟨a0, a1, a2, a3, a4, a5, a6⟩ := (hd.below (w' := w.alloc (.cells zn 38)) ((Below.refl _ _).alloc (Nat.le_refl _) _)).was_
  have HW := Lib.hid (show w2 = (w.alloc (.cells #[.int .i64 0, .int .i64 0, .bool false, .int .i64 0, .int .i64 0, .string ⟨#[]⟩, .string ⟨#[]⟩] 38)).alloc (.cells #[.int .i64 y.id.1, .int .i64 y.id.2, .bool y.dir, .int .i64 y.par.1, .int .i64 y.par.2, .string (bs y.nm), .string (bs y.mf)] 38) from hw2)
  have HQ := Lib.hid (And.intro hq4 hq6)
  obtain ⟨o0, o1, o2, o3, o4, o5, o6, o7, o8, o9, o10⟩ := hd2.op_
  obtain ⟨hh, hmd⟩ := hd2.had_
  obtain ⟨z0, z1, z2, z3, z4, z5, z6⟩ := blk7 hN.b4
  obtain ⟨g0, g1, g2, g3, g4, g5, g6⟩ := blkf7 hN.b4
  obtain ⟨c0, c1, c2, c3, c4, c5, c6⟩ := blk7 hN.b6
  obtain ⟨f0, f1, f2, f3, f4, f5, f6⟩ := blkf7 hN.b6
  have n46 := hN.ne
  have n64 := n46.symm
  unfold zn at a0 a1 a2 a3 a4 a5 a6
  clear hd hd2 hN h hw2 hq4 hq6
  unfold nv nextP
  have e1 : (x.kind == 1) = false := by rw [h2]; rfl
  have e2 : (x.kind == 2) = true := by rw [h2]; rfl
  rw [if_neg (by rw [h2]; decide), if_pos h2]
  clear h2
  obtain ⟨tk, htk⟩ : ∃ tk, tk = takesB x.par es := ⟨_, rfl⟩
  obtain ⟨bl, hbl⟩ : ∃ bl, bl = belowP es (es.length + 1) x.par x.node := ⟨_, rfl⟩
  have HTk := Lib.hid (fun (w' : World) (h' : Stt w' p m v r es) => mtakes_any x.par p m v r es w' h')
  have HBl := Lib.hid (fun (w' : World) (h' : Stt w' p m v r es) => below_any x.par x.node p m v r es w' h' hm)
  rw [← htk] at HTk
  rw [← hbl] at HBl
  rw [← htk, ← hbl]
  unfold sv at HTk HBl
  clear htk hbl
  go_enter Try.func40, Try.ntmps40
  go_upto_region 2 with (fail)
  rw [← HW.out, ← HQ.out.2, ← HQ.out.1]
  clear a0 a1 a2 a3 a4 a5 a6
  go_upto_region 9 with (fail)
  have T5 := ((HN.out.par x.par).nm x.nm).drew
  clear o0 o1 o2 o3 o6 o4 o5 hmd hh z0 z1 z2 z3 z4 z5 z6 g0 g1 g2 g3 g4 g5 g6 o10
  go_region
  have HT5 : RowKit.Hid (Nx w.heap.size q4 q6 w (((w2.setCell ⟨q6, 3, none⟩ (.int .i64 x.par.1)).setCell ⟨q6, 4, none⟩ (.int .i64 x.par.2)).setCell ⟨q6, 5, none⟩ (.string (bs x.nm))).drew nd0 ⟨y.id, y.dir, x.par, x.nm, y.mf⟩) := Lib.hid T5
  obtain ⟨w5, hw5⟩ : ∃ w5, w5 = (((w2.setCell ⟨q6, 3, none⟩ (.int .i64 x.par.1)).setCell ⟨q6, 4, none⟩ (.int .i64 x.par.2)).setCell ⟨q6, 5, none⟩ (.string (bs x.nm))).drew := ⟨_, rfl⟩
  rw [← hw5] at HT5
  rw [← hw5]
  clear hw5 T5 o7 o8 o9 c0 c1 c2 c3 c4 c5 c6 f0 f1 f2 f3 f4 f5 f6
  have k0 : ∀ u : After w5, u.wd.cell? ⟨q6, 0, none⟩ = some (.int .i64 y.id.1) := fun u => u.cell (HT5.out.b6.cell 0)
  have k1 : ∀ u : After w5, u.wd.cell? ⟨q6, 1, none⟩ = some (.int .i64 y.id.2) := fun u => u.cell (HT5.out.b6.cell 1)
  have k2 : ∀ u : After w5, u.wd.cell? ⟨q6, 2, none⟩ = some (.bool y.dir) := fun u => u.cell (HT5.out.b6.cell 2)
  have k3 : ∀ u : After w5, u.wd.cell? ⟨q6, 3, none⟩ = some (.int .i64 x.par.1) := fun u => u.cell (HT5.out.b6.cell 3)
  have k4 : ∀ u : After w5, u.wd.cell? ⟨q6, 4, none⟩ = some (.int .i64 x.par.2) := fun u => u.cell (HT5.out.b6.cell 4)
  have k5 : ∀ u : After w5, u.wd.cell? ⟨q6, 5, none⟩ = some (.string (bs x.nm)) := fun u => u.cell (HT5.out.b6.cell 5)
  have k6 : ∀ u : After w5, u.wd.cell? ⟨q6, 6, none⟩ = some (.string (bs y.mf)) := fun u => u.cell (HT5.out.b6.cell 6)
  have hRc := HD0.out.below HT5.out.below
  have j4 : ∀ u : After w5, u.wd.cell? ⟨g, o + 4, none⟩ = some (.int .i64 x.node.1) := fun u => (hRc.below u.below).2 4 _ rfl
  have j5 : ∀ u : After w5, u.wd.cell? ⟨g, o + 5, none⟩ = some (.int .i64 x.node.2) := fun u => (hRc.below u.below).2 5 _ rfl
  have j7 : ∀ u : After w5, u.wd.cell? ⟨g, o + 7, none⟩ = some (.int .i64 x.par.1) := fun u => (hRc.below u.below).2 7 _ rfl
  have j8 : ∀ u : After w5, u.wd.cell? ⟨g, o + 8, none⟩ = some (.int .i64 x.par.2) := fun u => (hRc.below u.below).2 8 _ rfl
  have jh : ∀ u : After w5, u.wd.cell? ⟨g, o + 18, none⟩ = some (.bool had) := fun u => (hRc.below u.below).2 18 _ rfl
  have ct : ∀ u : After w5, Calls Try.prog 52 #[.pointer (some ⟨p, 0, none⟩), .agg #[.int .i64 x.par.1, .int .i64 x.par.2]] u.wd fun e w' => e = .returned (.bool tk) ∧ Below u.wd.heap.size u.wd w' := fun u => HTk.out u.wd ((HS0.out.below HT5.out.below).below u.below)
  have cb : ∀ u : After w5, Calls Try.prog 53 #[.pointer (some ⟨p, 0, none⟩), .agg #[.int .i64 x.par.1, .int .i64 x.par.2], .agg #[.int .i64 x.node.1, .int .i64 x.node.2]] u.wd fun e w' => e = .returned (.bool bl) ∧ Below u.wd.heap.size u.wd w' := fun u => HBl.out u.wd ((HS0.out.below HT5.out.below).below u.below)
  have Hct := Lib.hid ct
  have Hcb := Lib.hid cb
  clear hRc ct cb
  cases had with
  | false =>
      go_upto_region 10 with (fail)
      clear k0 k1 k2 k3 k4 k5 k6 j4 j5 j7 j8 jh
      obtain ⟨r0, r1, r2, r3, r4, r5, r6⟩ := blk7 HT5.out.b4
      obtain ⟨g0, g1, g2, g3, g4, g5, g6⟩ := blkf7 HT5.out.b4
      refine wp_region_noPanic ?_
      refine wp_region_held_drew (S := fun w' => w'.cell? ⟨q6, 0, none⟩ = some (.int .i64 y.id.1) ∧ w'.cell? ⟨q6, 1, none⟩ = some (.int .i64 y.id.2) ∧ w'.cell? ⟨q6, 2, none⟩ = some (.bool y.dir) ∧ w'.cell? ⟨q6, 3, none⟩ = some (.int .i64 x.par.1) ∧ w'.cell? ⟨q6, 4, none⟩ = some (.int .i64 x.par.2) ∧ w'.cell? ⟨q6, 5, none⟩ = some (.string (bs x.nm)) ∧ w'.cell? ⟨q6, 6, none⟩ = some (.string (bs y.mf)) ∧
          w'.cell? ⟨g, o + 4, none⟩ = some (.int .i64 x.node.1) ∧ w'.cell? ⟨g, o + 5, none⟩ = some (.int .i64 x.node.2) ∧ w'.cell? ⟨g, o + 7, none⟩ = some (.int .i64 x.par.1) ∧ w'.cell? ⟨g, o + 8, none⟩ = some (.int .i64 x.par.2) ∧ w'.cell? ⟨g, o + 18, none⟩ = some (.bool false)) (by kernel_rfl) (mkS _ false HT5.out.drew (HD0.out.below HT5.out.drew.below)) (fun hHeld => ?_)
      refine wpAnyH_take (i := 0) (v := ?_) rfl (by kernel_rfl) (by kernel_rfl) (by kernel_rfl) (fun _ _ _ h => h) (Or.inl ⟨by first | (with_reducible rfl) | kernel_rfl, ?_⟩) hHeld ?_
      rotate_left
      · (intro w hSw; (try dsimp only at hSw); go_simp; first | done | with_reducible rfl)
      (try simp only [Act.put, List.getElem_toArray, List.getElem_cons_zero, List.getElem_cons_succ, List.setIfInBounds_toArray, List.set_cons_zero, List.set_cons_succ])
      refine wpAnyH_take (i := 1) (v := ?_) rfl (by kernel_rfl) (by kernel_rfl) (by kernel_rfl) (fun _ _ _ h => h) (Or.inl ⟨by first | (with_reducible rfl) | kernel_rfl, ?_⟩) hHeld ?_
      rotate_left
      · (intro w hSw; (try dsimp only at hSw); go_simp; first | done | with_reducible rfl)
      (try simp only [Act.put, List.getElem_toArray, List.getElem_cons_zero, List.getElem_cons_succ, List.setIfInBounds_toArray, List.set_cons_zero, List.set_cons_succ])
      refine wpAnyH_take (i := 2) (v := ?_) rfl (by kernel_rfl) (by kernel_rfl) (by kernel_rfl) (fun _ _ _ h => h) (Or.inl ⟨by first | (with_reducible rfl) | kernel_rfl, ?_⟩) hHeld ?_
      rotate_left
      · (intro w hSw; (try dsimp only at hSw); go_simp; first | done | with_reducible rfl)
      (try simp only [Act.put, List.getElem_toArray, List.getElem_cons_zero, List.getElem_cons_succ, List.setIfInBounds_toArray, List.set_cons_zero, List.set_cons_succ])
      refine wpAnyH_take (i := 3) (v := ?_) rfl (by kernel_rfl) (by kernel_rfl) (by kernel_rfl) (fun _ _ _ h => h) (Or.inl ⟨by first | (with_reducible rfl) | kernel_rfl, ?_⟩) hHeld ?_
      rotate_left
      · (intro w hSw; (try dsimp only at hSw); go_simp; first | done | with_reducible rfl)
      (try simp only [Act.put, List.getElem_toArray, List.getElem_cons_zero, List.getElem_cons_succ, List.setIfInBounds_toArray, List.set_cons_zero, List.set_cons_succ])
      refine wpAnyH_take (i := 4) (v := ?_) rfl (by kernel_rfl) (by kernel_rfl) (by kernel_rfl) (fun _ _ _ h => h) (Or.inl ⟨by first | (with_reducible rfl) | kernel_rfl, ?_⟩) hHeld ?_
      rotate_left
      · (intro w hSw; (try dsimp only at hSw); go_simp; first | done | with_reducible rfl)
      (try simp only [Act.put, List.getElem_toArray, List.getElem_cons_zero, List.getElem_cons_succ, List.setIfInBounds_toArray, List.set_cons_zero, List.set_cons_succ])
      refine wpAnyH_take (i := 5) (v := ?_) rfl (by kernel_rfl) (by kernel_rfl) (by kernel_rfl) (fun _ _ _ h => h) (Or.inl ⟨by first | (with_reducible rfl) | kernel_rfl, ?_⟩) hHeld ?_
      rotate_left
      · (intro w hSw; (try dsimp only at hSw); go_simp; first | done | with_reducible rfl)
      (try simp only [Act.put, List.getElem_toArray, List.getElem_cons_zero, List.getElem_cons_succ, List.setIfInBounds_toArray, List.set_cons_zero, List.set_cons_succ])
      refine wpAnyH_take (i := 6) (v := undef) rfl (by kernel_rfl) (by kernel_rfl) (by kernel_rfl) (fun _ _ _ h => h) (Or.inr ⟨by kernel_rfl, rfl⟩) hHeld ?_
      (try simp only [Act.put, List.getElem_toArray, List.getElem_cons_zero, List.getElem_cons_succ, List.setIfInBounds_toArray, List.set_cons_zero, List.set_cons_succ])
      refine wpAnyH_take (i := 7) (v := undef) rfl (by kernel_rfl) (by kernel_rfl) (by kernel_rfl) (fun _ _ _ h => h) (Or.inr ⟨by kernel_rfl, rfl⟩) hHeld ?_
      (try simp only [Act.put, List.getElem_toArray, List.getElem_cons_zero, List.getElem_cons_succ, List.setIfInBounds_toArray, List.set_cons_zero, List.set_cons_succ])
      refine wpAnyH_take (i := 8) (v := undef) rfl (by kernel_rfl) (by kernel_rfl) (by kernel_rfl) (fun _ _ _ h => h) (Or.inr ⟨by kernel_rfl, rfl⟩) hHeld ?_
      (try simp only [Act.put, List.getElem_toArray, List.getElem_cons_zero, List.getElem_cons_succ, List.setIfInBounds_toArray, List.set_cons_zero, List.set_cons_succ])
      refine wpAnyH_take (i := 9) (v := undef) rfl (by kernel_rfl) (by kernel_rfl) (by kernel_rfl) (fun _ _ _ h => h) (Or.inr ⟨by kernel_rfl, rfl⟩) hHeld ?_
      (try simp only [Act.put, List.getElem_toArray, List.getElem_cons_zero, List.getElem_cons_succ, List.setIfInBounds_toArray, List.set_cons_zero, List.set_cons_succ])
      refine wpAnyH_take (i := 10) (v := undef) rfl (by kernel_rfl) (by kernel_rfl) (by kernel_rfl) (fun _ _ _ h => h) (Or.inr ⟨by kernel_rfl, rfl⟩) hHeld ?_
      (try simp only [Act.put, List.getElem_toArray, List.getElem_cons_zero, List.getElem_cons_succ, List.setIfInBounds_toArray, List.set_cons_zero, List.set_cons_succ])
      refine wpAnyH_take (i := 11) (v := undef) rfl (by kernel_rfl) (by kernel_rfl) (by kernel_rfl) (fun _ _ _ h => h) (Or.inr ⟨by kernel_rfl, rfl⟩) hHeld ?_
      (try simp only [Act.put, List.getElem_toArray, List.getElem_cons_zero, List.getElem_cons_succ, List.setIfInBounds_toArray, List.set_cons_zero, List.set_cons_succ])
      refine wpAnyH_take (i := 12) (v := undef) rfl (by kernel_rfl) (by kernel_rfl) (by kernel_rfl) (fun _ _ _ h => h) (Or.inr ⟨by kernel_rfl, rfl⟩) hHeld ?_
      (try simp only [Act.put, List.getElem_toArray, List.getElem_cons_zero, List.getElem_cons_succ, List.setIfInBounds_toArray, List.set_cons_zero, List.set_cons_succ])
      refine wpAnyH_take (i := 13) (v := ?_) rfl (by kernel_rfl) (by kernel_rfl) (by kernel_rfl) (fun _ _ _ h => h) (Or.inl ⟨by first | (with_reducible rfl) | kernel_rfl, ?_⟩) hHeld ?_
      rotate_left
      · (intro w hSw; (try dsimp only at hSw); go_simp; first | done | with_reducible rfl)
      (try simp only [Act.put, List.getElem_toArray, List.getElem_cons_zero, List.getElem_cons_succ, List.setIfInBounds_toArray, List.set_cons_zero, List.set_cons_succ])
      refine wpAnyH_take (i := 14) (v := ?_) rfl (by kernel_rfl) (by kernel_rfl) (by kernel_rfl) (fun _ _ _ h => h) (Or.inl ⟨by first | (with_reducible rfl) | kernel_rfl, ?_⟩) hHeld ?_
      rotate_left
      · (intro w hSw; (try dsimp only at hSw); go_simp; first | done | with_reducible rfl)
      (try simp only [Act.put, List.getElem_toArray, List.getElem_cons_zero, List.getElem_cons_succ, List.setIfInBounds_toArray, List.set_cons_zero, List.set_cons_succ])
      refine wpAnyH_take (i := 15) (v := undef) rfl (by kernel_rfl) (by kernel_rfl) (by kernel_rfl) (fun _ _ _ h => h) (Or.inr ⟨by kernel_rfl, rfl⟩) hHeld ?_
      (try simp only [Act.put, List.getElem_toArray, List.getElem_cons_zero, List.getElem_cons_succ, List.setIfInBounds_toArray, List.set_cons_zero, List.set_cons_succ])
      refine wpAnyH_take (i := 16) (v := undef) rfl (by kernel_rfl) (by kernel_rfl) (by kernel_rfl) (fun _ _ _ h => h) (Or.inr ⟨by kernel_rfl, rfl⟩) hHeld ?_
      (try simp only [Act.put, List.getElem_toArray, List.getElem_cons_zero, List.getElem_cons_succ, List.setIfInBounds_toArray, List.set_cons_zero, List.set_cons_succ])
      refine wpAnyH_take (i := 17) (v := undef) rfl (by kernel_rfl) (by kernel_rfl) (by kernel_rfl) (fun _ _ _ h => h) (Or.inr ⟨by kernel_rfl, rfl⟩) hHeld ?_
      (try simp only [Act.put, List.getElem_toArray, List.getElem_cons_zero, List.getElem_cons_succ, List.setIfInBounds_toArray, List.set_cons_zero, List.set_cons_succ])
      refine wpAnyH_take (i := 18) (v := undef) rfl (by kernel_rfl) (by kernel_rfl) (by kernel_rfl) (fun _ _ _ h => h) (Or.inr ⟨by kernel_rfl, rfl⟩) hHeld ?_
      (try simp only [Act.put, List.getElem_toArray, List.getElem_cons_zero, List.getElem_cons_succ, List.setIfInBounds_toArray, List.set_cons_zero, List.set_cons_succ])
      refine wpAnyH_take (i := 19) (v := undef) rfl (by kernel_rfl) (by kernel_rfl) (by kernel_rfl) (fun _ _ _ h => h) (Or.inr ⟨by kernel_rfl, rfl⟩) hHeld ?_
      (try simp only [Act.put, List.getElem_toArray, List.getElem_cons_zero, List.getElem_cons_succ, List.setIfInBounds_toArray, List.set_cons_zero, List.set_cons_succ])
      refine wpAnyH_take (i := 20) (v := undef) rfl (by kernel_rfl) (by kernel_rfl) (by kernel_rfl) (fun _ _ _ h => h) (Or.inr ⟨by kernel_rfl, rfl⟩) hHeld ?_
      (try simp only [Act.put, List.getElem_toArray, List.getElem_cons_zero, List.getElem_cons_succ, List.setIfInBounds_toArray, List.set_cons_zero, List.set_cons_succ])
      refine wpAnyH_take (i := 21) (v := undef) rfl (by kernel_rfl) (by kernel_rfl) (by kernel_rfl) (fun _ _ _ h => h) (Or.inr ⟨by kernel_rfl, rfl⟩) hHeld ?_
      (try simp only [Act.put, List.getElem_toArray, List.getElem_cons_zero, List.getElem_cons_succ, List.setIfInBounds_toArray, List.set_cons_zero, List.set_cons_succ])
      refine wpAnyH_take (i := 22) (v := undef) rfl (by kernel_rfl) (by kernel_rfl) (by kernel_rfl) (fun _ _ _ h => h) (Or.inr ⟨by kernel_rfl, rfl⟩) hHeld ?_
      (try simp only [Act.put, List.getElem_toArray, List.getElem_cons_zero, List.getElem_cons_succ, List.setIfInBounds_toArray, List.set_cons_zero, List.set_cons_succ])
      refine wpAnyH_take (i := 23) (v := undef) rfl (by kernel_rfl) (by kernel_rfl) (by kernel_rfl) (fun _ _ _ h => h) (Or.inr ⟨by kernel_rfl, rfl⟩) hHeld ?_
      (try simp only [Act.put, List.getElem_toArray, List.getElem_cons_zero, List.getElem_cons_succ, List.setIfInBounds_toArray, List.set_cons_zero, List.set_cons_succ])
      refine wpAnyH_take (i := 24) (v := undef) rfl (by kernel_rfl) (by kernel_rfl) (by kernel_rfl) (fun _ _ _ h => h) (Or.inr ⟨by kernel_rfl, rfl⟩) hHeld ?_
      (try simp only [Act.put, List.getElem_toArray, List.getElem_cons_zero, List.getElem_cons_succ, List.setIfInBounds_toArray, List.set_cons_zero, List.set_cons_succ])
      refine wpAnyH_take (i := 25) (v := undef) rfl (by kernel_rfl) (by kernel_rfl) (by kernel_rfl) (fun _ _ _ h => h) (Or.inr ⟨by kernel_rfl, rfl⟩) hHeld ?_
      (try simp only [Act.put, List.getElem_toArray, List.getElem_cons_zero, List.getElem_cons_succ, List.setIfInBounds_toArray, List.set_cons_zero, List.set_cons_succ])
      refine wpAnyH_take (i := 26) (v := undef) rfl (by kernel_rfl) (by kernel_rfl) (by kernel_rfl) (fun _ _ _ h => h) (Or.inr ⟨by kernel_rfl, rfl⟩) hHeld ?_
      (try simp only [Act.put, List.getElem_toArray, List.getElem_cons_zero, List.getElem_cons_succ, List.setIfInBounds_toArray, List.set_cons_zero, List.set_cons_succ])
      refine wpAnyH_take (i := 27) (v := undef) rfl (by kernel_rfl) (by kernel_rfl) (by kernel_rfl) (fun _ _ _ h => h) (Or.inr ⟨by kernel_rfl, rfl⟩) hHeld ?_
      (try simp only [Act.put, List.getElem_toArray, List.getElem_cons_zero, List.getElem_cons_succ, List.setIfInBounds_toArray, List.set_cons_zero, List.set_cons_succ])
      refine wpAnyH_take (i := 28) (v := ?_) rfl (by kernel_rfl) (by kernel_rfl) (by kernel_rfl) (fun _ _ _ h => h) (Or.inl ⟨by first | (with_reducible rfl) | kernel_rfl, ?_⟩) hHeld ?_
      rotate_left
      · (intro w hSw; (try dsimp only at hSw); go_simp; first | done | with_reducible rfl)
      (try simp only [Act.put, List.getElem_toArray, List.getElem_cons_zero, List.getElem_cons_succ, List.setIfInBounds_toArray, List.set_cons_zero, List.set_cons_succ])
      refine wpAnyH_ready (rs := [29]) (by kernel_rfl) (by simp) ?_
      refine AllReadyH.cons rfl (fun K hK => ?_) AllReadyH.nil
      go_simp
      refine hK.out _ _ ((mkS _ false HT5.out.last.drew (HD0.out.below HT5.out.last.drew.below))) (fun hHeld => ?_)
      clear hK K
      (try simp only [Act.put, List.getElem_toArray, List.getElem_cons_zero, List.getElem_cons_succ, List.setIfInBounds_toArray, List.set_cons_zero, List.set_cons_succ])
      refine wpAnyH_take (i := 30) (v := ?_) rfl (by kernel_rfl) (by kernel_rfl) (by kernel_rfl) (fun _ _ _ h => h) (Or.inl ⟨by first | (with_reducible rfl) | kernel_rfl, ?_⟩) hHeld ?_
      rotate_left
      · (intro w hSw; (try dsimp only at hSw); go_simp; first | done | with_reducible rfl)
      (try simp only [Act.put, List.getElem_toArray, List.getElem_cons_zero, List.getElem_cons_succ, List.setIfInBounds_toArray, List.set_cons_zero, List.set_cons_succ])
      refine wpAnyH_done (by kernel_rfl) ?_ _
      refine NoPanic.normal ?_
      have z9 := HT5.out.last
      obtain ⟨t0, t1, t2, t3, t4, t5, t6⟩ := blk7 z9.b4
      have hz0 := z9.below
      unfold put7 at hz0 t0 t1 t2 t3 t4 t5 t6
      have HZ := Lib.hid hz0
      clear z9 hz0 r0 r1 r2 r3 r4 r5 r6 g0 g1 g2 g3 g4 g5 g6
      go_wp2_with fail
      exact bodyPost_ret (v := .tuple #[.agg #[.int .i64 y.id.1, .int .i64 y.id.2, .bool y.dir, .int .i64 x.par.1, .int .i64 x.par.2, .string (bs x.nm), .string (bs y.mf)], .bool false]) (by simp [results, Try.results40, go_sem, t0, t1, t2, t3, t4, t5, t6]) rfl ⟨by simp, HZ.out.drew⟩
  | true =>
    cases tk with
    | false =>
      go_upto_region 10 with (fail)
      clear k0 k1 k2 k3 k4 k5 k6 j4 j5 j7 j8 jh
      refine wp_region_noPanic ?_
      refine wp_region_held_drew (S := fun w' => w'.cell? ⟨q6, 0, none⟩ = some (.int .i64 y.id.1) ∧ w'.cell? ⟨q6, 1, none⟩ = some (.int .i64 y.id.2) ∧ w'.cell? ⟨q6, 2, none⟩ = some (.bool y.dir) ∧ w'.cell? ⟨q6, 3, none⟩ = some (.int .i64 x.par.1) ∧ w'.cell? ⟨q6, 4, none⟩ = some (.int .i64 x.par.2) ∧ w'.cell? ⟨q6, 5, none⟩ = some (.string (bs x.nm)) ∧ w'.cell? ⟨q6, 6, none⟩ = some (.string (bs y.mf)) ∧
          w'.cell? ⟨g, o + 4, none⟩ = some (.int .i64 x.node.1) ∧ w'.cell? ⟨g, o + 5, none⟩ = some (.int .i64 x.node.2) ∧ w'.cell? ⟨g, o + 7, none⟩ = some (.int .i64 x.par.1) ∧ w'.cell? ⟨g, o + 8, none⟩ = some (.int .i64 x.par.2) ∧ w'.cell? ⟨g, o + 18, none⟩ = some (.bool true)) (by kernel_rfl) (mkS _ true HT5.out.drew (HD0.out.below HT5.out.drew.below)) (fun hHeld => ?_)
      refine wpAnyH_take (i := 0) (v := ?_) rfl (by kernel_rfl) (by kernel_rfl) (by kernel_rfl) (fun _ _ _ h => h) (Or.inl ⟨by first | (with_reducible rfl) | kernel_rfl, ?_⟩) hHeld ?_
      rotate_left
      · (intro w hSw; (try dsimp only at hSw); go_simp; first | done | with_reducible rfl)
      (try simp only [Act.put, List.getElem_toArray, List.getElem_cons_zero, List.getElem_cons_succ, List.setIfInBounds_toArray, List.set_cons_zero, List.set_cons_succ])
      refine wpAnyH_take (i := 1) (v := ?_) rfl (by kernel_rfl) (by kernel_rfl) (by kernel_rfl) (fun _ _ _ h => h) (Or.inl ⟨by first | (with_reducible rfl) | kernel_rfl, ?_⟩) hHeld ?_
      rotate_left
      · (intro w hSw; (try dsimp only at hSw); go_simp; first | done | with_reducible rfl)
      (try simp only [Act.put, List.getElem_toArray, List.getElem_cons_zero, List.getElem_cons_succ, List.setIfInBounds_toArray, List.set_cons_zero, List.set_cons_succ])
      refine wpAnyH_take (i := 2) (v := ?_) rfl (by kernel_rfl) (by kernel_rfl) (by kernel_rfl) (fun _ _ _ h => h) (Or.inl ⟨by first | (with_reducible rfl) | kernel_rfl, ?_⟩) hHeld ?_
      rotate_left
      · (intro w hSw; (try dsimp only at hSw); go_simp; first | done | with_reducible rfl)
      (try simp only [Act.put, List.getElem_toArray, List.getElem_cons_zero, List.getElem_cons_succ, List.setIfInBounds_toArray, List.set_cons_zero, List.set_cons_succ])
      refine wpAnyH_take (i := 3) (v := ?_) rfl (by kernel_rfl) (by kernel_rfl) (by kernel_rfl) (fun _ _ _ h => h) (Or.inl ⟨by first | (with_reducible rfl) | kernel_rfl, ?_⟩) hHeld ?_
      rotate_left
      · (intro w hSw; (try dsimp only at hSw); go_simp; first | done | with_reducible rfl)
      (try simp only [Act.put, List.getElem_toArray, List.getElem_cons_zero, List.getElem_cons_succ, List.setIfInBounds_toArray, List.set_cons_zero, List.set_cons_succ])
      refine wpAnyH_take (i := 4) (v := ?_) rfl (by kernel_rfl) (by kernel_rfl) (by kernel_rfl) (fun _ _ _ h => h) (Or.inl ⟨by first | (with_reducible rfl) | kernel_rfl, ?_⟩) hHeld ?_
      rotate_left
      · (intro w hSw; (try dsimp only at hSw); go_simp; first | done | with_reducible rfl)
      (try simp only [Act.put, List.getElem_toArray, List.getElem_cons_zero, List.getElem_cons_succ, List.setIfInBounds_toArray, List.set_cons_zero, List.set_cons_succ])
      refine wpAnyH_take (i := 5) (v := ?_) rfl (by kernel_rfl) (by kernel_rfl) (by kernel_rfl) (fun _ _ _ h => h) (Or.inl ⟨by first | (with_reducible rfl) | kernel_rfl, ?_⟩) hHeld ?_
      rotate_left
      · (intro w hSw; (try dsimp only at hSw); go_simp; first | done | with_reducible rfl)
      (try simp only [Act.put, List.getElem_toArray, List.getElem_cons_zero, List.getElem_cons_succ, List.setIfInBounds_toArray, List.set_cons_zero, List.set_cons_succ])
      refine wpAnyH_take (i := 6) (v := ?_) rfl (by kernel_rfl) (by kernel_rfl) (by kernel_rfl) (fun _ _ _ h => h) (Or.inl ⟨by first | (with_reducible rfl) | kernel_rfl, ?_⟩) hHeld ?_
      rotate_left
      · (intro w hSw; (try dsimp only at hSw); go_simp; first | done | with_reducible rfl)
      (try simp only [Act.put, List.getElem_toArray, List.getElem_cons_zero, List.getElem_cons_succ, List.setIfInBounds_toArray, List.set_cons_zero, List.set_cons_succ])
      refine wpAnyH_take (i := 7) (v := ?_) rfl (by kernel_rfl) (by kernel_rfl) (by kernel_rfl) (fun _ _ _ h => h) (Or.inl ⟨by first | (with_reducible rfl) | kernel_rfl, ?_⟩) hHeld ?_
      rotate_left
      · (intro w hSw; (try dsimp only at hSw); go_simp; first | done | with_reducible rfl)
      (try simp only [Act.put, List.getElem_toArray, List.getElem_cons_zero, List.getElem_cons_succ, List.setIfInBounds_toArray, List.set_cons_zero, List.set_cons_succ])
      refine wpAnyH_take (i := 8) (v := ?_) rfl (by kernel_rfl) (by kernel_rfl) (by kernel_rfl) (fun _ _ _ h => h) (Or.inl ⟨by first | (with_reducible rfl) | kernel_rfl, ?_⟩) hHeld ?_
      rotate_left
      · (intro w hSw; (try dsimp only at hSw); go_simp; first | done | with_reducible rfl)
      (try simp only [Act.put, List.getElem_toArray, List.getElem_cons_zero, List.getElem_cons_succ, List.setIfInBounds_toArray, List.set_cons_zero, List.set_cons_succ])
      refine wpAnyH_take (i := 9) (v := ?_) rfl (by kernel_rfl) (by kernel_rfl) (by kernel_rfl) (fun _ _ _ h => h) (Or.inl ⟨by first | (with_reducible rfl) | kernel_rfl, ?_⟩) hHeld ?_
      rotate_left
      · (intro w hSw; (try dsimp only at hSw); go_simp; first | done | with_reducible rfl)
      (try simp only [Act.put, List.getElem_toArray, List.getElem_cons_zero, List.getElem_cons_succ, List.setIfInBounds_toArray, List.set_cons_zero, List.set_cons_succ])
      refine wpAnyH_take (i := 10) (v := ?_) rfl (by kernel_rfl) (by kernel_rfl) (by kernel_rfl) (fun _ _ _ h => h) (Or.inl ⟨by first | (with_reducible rfl) | kernel_rfl, ?_⟩) hHeld ?_
      rotate_left
      · (intro w hSw; (try dsimp only at hSw); go_simp; first | done | with_reducible rfl)
      (try simp only [Act.put, List.getElem_toArray, List.getElem_cons_zero, List.getElem_cons_succ, List.setIfInBounds_toArray, List.set_cons_zero, List.set_cons_succ])
      refine wpAnyH_take (i := 11) (v := ?_) rfl (by kernel_rfl) (by kernel_rfl) (by kernel_rfl) (fun _ _ _ h => h) (Or.inl ⟨by first | (with_reducible rfl) | kernel_rfl, ?_⟩) hHeld ?_
      rotate_left
      · (intro w hSw; (try dsimp only at hSw); go_simp; first | done | with_reducible rfl)
      (try simp only [Act.put, List.getElem_toArray, List.getElem_cons_zero, List.getElem_cons_succ, List.setIfInBounds_toArray, List.set_cons_zero, List.set_cons_succ])
      refine wpAnyH_ready (rs := [12]) (by kernel_rfl) (by simp) ?_
      refine AllReadyH.cons rfl (fun K hK => ?_) AllReadyH.nil
      go_simp
      refine (HTk.out _ ((HS0.out.below HT5.out.below).below (Below.refl _ _).drew)).mono ?_
      rintro e w6 ⟨rfl, hb6⟩
      have HT6 := Lib.hid (HT5.out.drew.after hb6)
      obtain ⟨r0, r1, r2, r3, r4, r5, r6⟩ := blk7 HT6.out.b4
      obtain ⟨g0, g1, g2, g3, g4, g5, g6⟩ := blkf7 HT6.out.b4
      clear hb6
      refine hK.out _ _ (mkS _ true HT6.out (HD0.out.below HT6.out.below)) (fun hHeld => ?_)
      clear hK K
      (try simp only [Act.put, List.getElem_toArray, List.getElem_cons_zero, List.getElem_cons_succ, List.setIfInBounds_toArray, List.set_cons_zero, List.set_cons_succ])
      refine wpAnyH_take (i := 13) (v := ?_) rfl (by kernel_rfl) (by kernel_rfl) (by kernel_rfl) (fun _ _ _ h => h) (Or.inl ⟨by first | (with_reducible rfl) | kernel_rfl, ?_⟩) hHeld ?_
      rotate_left
      · (intro w hSw; (try dsimp only at hSw); go_simp; first | done | with_reducible rfl)
      (try simp only [Act.put, List.getElem_toArray, List.getElem_cons_zero, List.getElem_cons_succ, List.setIfInBounds_toArray, List.set_cons_zero, List.set_cons_succ])
      refine wpAnyH_take (i := 14) (v := ?_) rfl (by kernel_rfl) (by kernel_rfl) (by kernel_rfl) (fun _ _ _ h => h) (Or.inl ⟨by first | (with_reducible rfl) | kernel_rfl, ?_⟩) hHeld ?_
      rotate_left
      · (intro w hSw; (try dsimp only at hSw); go_simp; first | done | with_reducible rfl)
      (try simp only [Act.put, List.getElem_toArray, List.getElem_cons_zero, List.getElem_cons_succ, List.setIfInBounds_toArray, List.set_cons_zero, List.set_cons_succ])
      refine wpAnyH_take (i := 15) (v := undef) rfl (by kernel_rfl) (by kernel_rfl) (by kernel_rfl) (fun _ _ _ h => h) (Or.inr ⟨by kernel_rfl, rfl⟩) hHeld ?_
      (try simp only [Act.put, List.getElem_toArray, List.getElem_cons_zero, List.getElem_cons_succ, List.setIfInBounds_toArray, List.set_cons_zero, List.set_cons_succ])
      refine wpAnyH_take (i := 16) (v := undef) rfl (by kernel_rfl) (by kernel_rfl) (by kernel_rfl) (fun _ _ _ h => h) (Or.inr ⟨by kernel_rfl, rfl⟩) hHeld ?_
      (try simp only [Act.put, List.getElem_toArray, List.getElem_cons_zero, List.getElem_cons_succ, List.setIfInBounds_toArray, List.set_cons_zero, List.set_cons_succ])
      refine wpAnyH_take (i := 17) (v := undef) rfl (by kernel_rfl) (by kernel_rfl) (by kernel_rfl) (fun _ _ _ h => h) (Or.inr ⟨by kernel_rfl, rfl⟩) hHeld ?_
      (try simp only [Act.put, List.getElem_toArray, List.getElem_cons_zero, List.getElem_cons_succ, List.setIfInBounds_toArray, List.set_cons_zero, List.set_cons_succ])
      refine wpAnyH_take (i := 18) (v := undef) rfl (by kernel_rfl) (by kernel_rfl) (by kernel_rfl) (fun _ _ _ h => h) (Or.inr ⟨by kernel_rfl, rfl⟩) hHeld ?_
      (try simp only [Act.put, List.getElem_toArray, List.getElem_cons_zero, List.getElem_cons_succ, List.setIfInBounds_toArray, List.set_cons_zero, List.set_cons_succ])
      refine wpAnyH_take (i := 19) (v := undef) rfl (by kernel_rfl) (by kernel_rfl) (by kernel_rfl) (fun _ _ _ h => h) (Or.inr ⟨by kernel_rfl, rfl⟩) hHeld ?_
      (try simp only [Act.put, List.getElem_toArray, List.getElem_cons_zero, List.getElem_cons_succ, List.setIfInBounds_toArray, List.set_cons_zero, List.set_cons_succ])
      refine wpAnyH_take (i := 20) (v := undef) rfl (by kernel_rfl) (by kernel_rfl) (by kernel_rfl) (fun _ _ _ h => h) (Or.inr ⟨by kernel_rfl, rfl⟩) hHeld ?_
      (try simp only [Act.put, List.getElem_toArray, List.getElem_cons_zero, List.getElem_cons_succ, List.setIfInBounds_toArray, List.set_cons_zero, List.set_cons_succ])
      refine wpAnyH_take (i := 21) (v := undef) rfl (by kernel_rfl) (by kernel_rfl) (by kernel_rfl) (fun _ _ _ h => h) (Or.inr ⟨by kernel_rfl, rfl⟩) hHeld ?_
      (try simp only [Act.put, List.getElem_toArray, List.getElem_cons_zero, List.getElem_cons_succ, List.setIfInBounds_toArray, List.set_cons_zero, List.set_cons_succ])
      refine wpAnyH_take (i := 22) (v := undef) rfl (by kernel_rfl) (by kernel_rfl) (by kernel_rfl) (fun _ _ _ h => h) (Or.inr ⟨by kernel_rfl, rfl⟩) hHeld ?_
      (try simp only [Act.put, List.getElem_toArray, List.getElem_cons_zero, List.getElem_cons_succ, List.setIfInBounds_toArray, List.set_cons_zero, List.set_cons_succ])
      refine wpAnyH_take (i := 23) (v := undef) rfl (by kernel_rfl) (by kernel_rfl) (by kernel_rfl) (fun _ _ _ h => h) (Or.inr ⟨by kernel_rfl, rfl⟩) hHeld ?_
      (try simp only [Act.put, List.getElem_toArray, List.getElem_cons_zero, List.getElem_cons_succ, List.setIfInBounds_toArray, List.set_cons_zero, List.set_cons_succ])
      refine wpAnyH_take (i := 24) (v := undef) rfl (by kernel_rfl) (by kernel_rfl) (by kernel_rfl) (fun _ _ _ h => h) (Or.inr ⟨by kernel_rfl, rfl⟩) hHeld ?_
      (try simp only [Act.put, List.getElem_toArray, List.getElem_cons_zero, List.getElem_cons_succ, List.setIfInBounds_toArray, List.set_cons_zero, List.set_cons_succ])
      refine wpAnyH_take (i := 25) (v := undef) rfl (by kernel_rfl) (by kernel_rfl) (by kernel_rfl) (fun _ _ _ h => h) (Or.inr ⟨by kernel_rfl, rfl⟩) hHeld ?_
      (try simp only [Act.put, List.getElem_toArray, List.getElem_cons_zero, List.getElem_cons_succ, List.setIfInBounds_toArray, List.set_cons_zero, List.set_cons_succ])
      refine wpAnyH_take (i := 26) (v := undef) rfl (by kernel_rfl) (by kernel_rfl) (by kernel_rfl) (fun _ _ _ h => h) (Or.inr ⟨by kernel_rfl, rfl⟩) hHeld ?_
      (try simp only [Act.put, List.getElem_toArray, List.getElem_cons_zero, List.getElem_cons_succ, List.setIfInBounds_toArray, List.set_cons_zero, List.set_cons_succ])
      refine wpAnyH_take (i := 27) (v := undef) rfl (by kernel_rfl) (by kernel_rfl) (by kernel_rfl) (fun _ _ _ h => h) (Or.inr ⟨by kernel_rfl, rfl⟩) hHeld ?_
      (try simp only [Act.put, List.getElem_toArray, List.getElem_cons_zero, List.getElem_cons_succ, List.setIfInBounds_toArray, List.set_cons_zero, List.set_cons_succ])
      refine wpAnyH_take (i := 28) (v := ?_) rfl (by kernel_rfl) (by kernel_rfl) (by kernel_rfl) (fun _ _ _ h => h) (Or.inl ⟨by first | (with_reducible rfl) | kernel_rfl, ?_⟩) hHeld ?_
      rotate_left
      · (intro w hSw; (try dsimp only at hSw); go_simp; first | done | with_reducible rfl)
      (try simp only [Act.put, List.getElem_toArray, List.getElem_cons_zero, List.getElem_cons_succ, List.setIfInBounds_toArray, List.set_cons_zero, List.set_cons_succ])
      refine wpAnyH_ready (rs := [29]) (by kernel_rfl) (by simp) ?_
      refine AllReadyH.cons rfl (fun K hK => ?_) AllReadyH.nil
      go_simp
      refine hK.out _ _ ((mkS _ true HT6.out.last (HD0.out.below HT6.out.last.below))) (fun hHeld => ?_)
      clear hK K
      (try simp only [Act.put, List.getElem_toArray, List.getElem_cons_zero, List.getElem_cons_succ, List.setIfInBounds_toArray, List.set_cons_zero, List.set_cons_succ])
      refine wpAnyH_take (i := 30) (v := ?_) rfl (by kernel_rfl) (by kernel_rfl) (by kernel_rfl) (fun _ _ _ h => h) (Or.inl ⟨by first | (with_reducible rfl) | kernel_rfl, ?_⟩) hHeld ?_
      rotate_left
      · (intro w hSw; (try dsimp only at hSw); go_simp; first | done | with_reducible rfl)
      (try simp only [Act.put, List.getElem_toArray, List.getElem_cons_zero, List.getElem_cons_succ, List.setIfInBounds_toArray, List.set_cons_zero, List.set_cons_succ])
      refine wpAnyH_done (by kernel_rfl) ?_ _
      refine NoPanic.normal ?_
      have z9 := HT6.out.last
      obtain ⟨t0, t1, t2, t3, t4, t5, t6⟩ := blk7 z9.b4
      have hz0 := z9.below
      unfold put7 at hz0 t0 t1 t2 t3 t4 t5 t6
      have HZ := Lib.hid hz0
      clear z9 hz0 r0 r1 r2 r3 r4 r5 r6 g0 g1 g2 g3 g4 g5 g6
      go_wp2_with fail
      exact bodyPost_ret (v := .tuple #[.agg #[.int .i64 y.id.1, .int .i64 y.id.2, .bool y.dir, .int .i64 x.par.1, .int .i64 x.par.2, .string (bs x.nm), .string (bs y.mf)], .bool false]) (by simp [results, Try.results40, go_sem, t0, t1, t2, t3, t4, t5, t6]) rfl ⟨by simp, HZ.out⟩
    | true =>
      go_upto_region 10 with (fail)
      clear k0 k1 k2 k3 k4 k5 k6 j4 j5 j7 j8 jh
      go_region_held3 (fun w' => w'.cell? ⟨q6, 0, none⟩ = some (.int .i64 y.id.1) ∧ w'.cell? ⟨q6, 1, none⟩ = some (.int .i64 y.id.2) ∧ w'.cell? ⟨q6, 2, none⟩ = some (.bool y.dir) ∧ w'.cell? ⟨q6, 3, none⟩ = some (.int .i64 x.par.1) ∧ w'.cell? ⟨q6, 4, none⟩ = some (.int .i64 x.par.2) ∧ w'.cell? ⟨q6, 5, none⟩ = some (.string (bs x.nm)) ∧ w'.cell? ⟨q6, 6, none⟩ = some (.string (bs y.mf)) ∧
          w'.cell? ⟨g, o + 4, none⟩ = some (.int .i64 x.node.1) ∧ w'.cell? ⟨g, o + 5, none⟩ = some (.int .i64 x.node.2) ∧ w'.cell? ⟨g, o + 7, none⟩ = some (.int .i64 x.par.1) ∧ w'.cell? ⟨g, o + 8, none⟩ = some (.int .i64 x.par.2) ∧ w'.cell? ⟨g, o + 18, none⟩ = some (.bool true))
        (first | with_reducible exact mkS _ true HT7.out (HD0.out.below HT7.out.below) | exact mkS _ true HT7.out.last (HD0.out.below HT7.out.last.below) | with_reducible exact mkS _ true HT6.out (HD0.out.below HT6.out.below) | exact mkS _ true HT5.out.drew (HD0.out.below HT5.out.drew.below))
        (first
          | (go_at_call 52; refine (HTk.out _ ((HS0.out.below HT5.out.below).below (Below.refl _ _).drew)).mono ?_; rintro e w6 ⟨rfl, hb6⟩; have HT6 := Lib.hid (HT5.out.drew.after hb6); clear hb6)
          | (go_at_call 53; refine (HBl.out _ (HS0.out.below HT6.out.below)).mono ?_; rintro e w7 ⟨rfl, hb7⟩; have HT7 := Lib.hid (HT6.out.after hb7); obtain ⟨r0, r1, r2, r3, r4, r5, r6⟩ := blk7 HT7.out.b4; obtain ⟨g0, g1, g2, g3, g4, g5, g6⟩ := blkf7 HT7.out.b4; clear hb7))
      have z9 := HT7.out.last
      obtain ⟨t0, t1, t2, t3, t4, t5, t6⟩ := blk7 z9.b4
      have hz0 := z9.below
      unfold put7 at hz0 t0 t1 t2 t3 t4 t5 t6
      have HZ := Lib.hid hz0
      clear z9 hz0 r0 r1 r2 r3 r4 r5 r6 g0 g1 g2 g3 g4 g5 g6
      go_wp2_with fail
      exact bodyPost_ret (v := .tuple #[.agg #[.int .i64 y.id.1, .int .i64 y.id.2, .bool y.dir, .int .i64 x.par.1, .int .i64 x.par.2, .string (bs x.nm), .string (bs y.mf)], .bool (!bl)]) (by simp [results, Try.results40, go_sem, t0, t1, t2, t3, t4, t5, t6]) rfl ⟨by simp, HZ.out⟩

theorem next_any (d : Rec) (g o p m : Nat) (v : Value) (r : Int) (es : List Nd) (w : World) (hd : RecAt w g o d) (h : Stt w p m v r es) (hm : es.length ≤ 1000000) :
    Calls Try.prog 40 #[.pointer (some ⟨p, 0, none⟩), .pointer (some ⟨g, o, none⟩)] w fun e w' =>
      e = .returned (.tuple #[nv (nextP es d.op d.was d.had).1, .bool (nextP es d.op d.was d.had).2]) ∧ Below w.heap.size w w' := by
  obtain ⟨x, y, had, made⟩ := d
  by_cases h4 : x.kind = 4
  · exact next_drop x y had made h4 g o p m v r es w hd h hm
  by_cases h3 : x.kind = 3
  · exact next_edit x y had made h3 h4 g o p m v r es w hd h hm
  by_cases h1 : x.kind = 1
  · exact next_make x y had made h1 h3 h4 g o p m v r es w hd h hm
  by_cases h2 : x.kind = 2
  · exact next_move x y had made h2 g o p m v r es w hd h hm
  exact next_none x y had made h1 h2 h3 h4 g o p m v r es w hd h hm
end Go.Proofs.Ytaglomhmnoldlaa
