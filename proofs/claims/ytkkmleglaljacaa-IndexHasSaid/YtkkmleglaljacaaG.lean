/- Add, as the document does it. -/
import Derived.Test.YtkkmleglaljacaaF
namespace Go.Proofs.Ytkkmleglaljacaa
open Go.RowKit

theorem with_is {l : List Rg} {x : Rg} (hc : Canon l) (hx : x.f ≤ x.t) : Is (withL l x false) (l ++ [x]) := by
  obtain ⟨h1, h2⟩ := with_canon hc hx
  refine ⟨h1, fun w n => ?_⟩
  rw [h2, cov_append]
  simp [cov_cons, cov_nil]
theorem idx_box {t : TypeId} {w : World} {g : Nat} {v : Value} {l : List Rg} {x : Rg} (h : Idx t w g v l) : Idx t (w.alloc (.cells #[.int .i64 x.w, .int .i64 x.f, .int .i64 x.t] 33)) g v l := h.below ((Below.refl _ w).alloc (Nat.le_refl _) _)

set_option maxRecDepth 100000 in
set_option maxHeartbeats 400000 in
theorem radd_bad (g : Nat) (x : Rg) (w : World) (hx : ¬ RightR x) :
    Calls Try.prog 12 #[.pointer (some ⟨g, 0, none⟩), rv x] w fun e w' => e = .returned (.tuple #[.int .i64 0, .int .i64 1]) ∧ Below w.heap.size w w' := by
  have hb : Below w.heap.size w (w.alloc (.cells #[.int .i64 x.w, .int .i64 x.f, .int .i64 x.t] 33)) := (Below.refl _ w).alloc (Nat.le_refl _) _
  have hr := fun W => Right_any x W
  have hf : rightB x = false := decide_eq_false hx
  rw [hf] at hr
  have hnot : ∀ (x : Bool) (w : World), (Op.unary .not (.bool x)).run Try.prog w = .ok (.bool (!x)) w := fun _ _ => rfl
  have HR := Lib.hid hr
  have HB := Lib.hid hb
  clear hr hb hf hx
  unfold rv at HR ⊢
  go_enter Try.func12, Try.ntmps12
  go_wp2_with fail
  refine (HR.out _).mono ?_
  rintro e w' ⟨rfl, hb2⟩
  have hb3 := HB.out.trans (hb2.mono HB.out.size)
  clear hb2
  go_wp2_with fail
  exact bodyPost_ret (v := .tuple #[.int .i64 0, .int .i64 1]) (by simp [results, Try.results12, go_sem]) rfl ⟨rfl, hb3⟩

set_option maxRecDepth 100000 in
set_option maxHeartbeats 1600000 in
theorem radd_ok (g : Nat) (v : Value) (l : List Rg) (x : Rg) (w : World) (h : Idx 28 w g v l) (hx : RightR x) (hm : l.length ≤ 900) :
    Calls Try.prog 12 #[.pointer (some ⟨g, 0, none⟩), rv x] w fun e w' => ∃ v' l', e = .returned (.tuple #[.int .i64 (manyL l' - manyL l), .int .i64 0]) ∧ Idx 28 w' g v' l' ∧ Is l' (l ++ [x]) ∧ w.grownBy w' (some g) := by
  obtain ⟨w1, hw1⟩ : ∃ w1, w1 = w.alloc (.cells #[.int .i64 x.w, .int .i64 x.f, .int .i64 x.t] 33) := ⟨_, rfl⟩
  have hb1 : Below w.heap.size w w1 := by rw [hw1]; exact (Below.refl _ w).alloc (Nat.le_refl _) _
  have hX : Blk w1 w.heap.size 33 #[.int .i64 x.w, .int .i64 x.f, .int .i64 x.t] := by rw [hw1]; exact Blk.new _ _ _
  have hglt := h.lt
  have HRt := Lib.hid (fun W => Right_any x W)
  have hf : rightB x = true := decide_eq_true hx
  rw [hf] at HRt
  have hnot : ∀ (x : Bool) (w : World), (Op.unary .not (.bool x)).run Try.prog w = .ok (.bool (!x)) w := fun _ _ => rfl
  have HW1 := Lib.hid hw1
  have Hb1 := Lib.hid hb1
  have HX := Lib.hid hX
  have HRx := Lib.hid hx
  have hIs := with_is h.canon hx.le
  have hJr := hIs.right (right_snoc h.right hx)
  obtain ⟨J, hJ⟩ : ∃ J, withL l x false = J := ⟨_, rfl⟩
  have HWi := Lib.hid (fun len cap A W hx0 hlen => with_any len cap A l x W hx0 hlen h.right hx)
  rw [hJ] at hIs hJr HWi
  have hJl : J.length ≤ 901 := by
    have := hIs.len (fun y hy => (right_snoc h.right hx y hy).le)
    simp at this
    omega
  have hmJ := many_bound hJr J.length
  rw [List.take_length] at hmJ
  have hml := many_bound h.right l.length
  rw [List.take_length] at hml
  obtain ⟨mJ, emJ⟩ : ∃ m, m = manyL J := ⟨_, rfl⟩
  obtain ⟨ml, eml⟩ : ∃ m, m = manyL l := ⟨_, rfl⟩
  have q1 : 0 ≤ mJ ∧ mJ ≤ 4611686018427387904 := by rw [emJ]; omega
  have q2 : 0 ≤ ml ∧ ml ≤ 4611686018427387904 := by rw [eml]; omega
  obtain ⟨q1, q1'⟩ := q1
  obtain ⟨q2, q2'⟩ := q2
  have hd : decide ((J.length : Int) > 1000) = false := decide_eq_false (by omega)
  have HId := Lib.hid h
  have HIs := Lib.hid hIs
  have HJr := Lib.hid hJr
  have HEJ := Lib.hid emJ
  have HEl := Lib.hid eml
  obtain ⟨A, c, rfl⟩ := h.slice
  clear hw1 hb1 hX hx hf h hIs hJr hJ hmJ hml emJ eml
  unfold rv at HRt ⊢
  go_enter Try.func12, Try.ntmps12
  go_wp2_with fail
  rw [← HW1.out]
  refine (HRt.out _).mono ?_
  rintro e w2 ⟨rfl, hb2⟩
  have hB2 := Hb1.out.trans (hb2.mono Hb1.out.size)
  have hX2 := HX.out.below hb2 HX.out.lt
  obtain ⟨x0, x1, x2⟩ := blk3 hX2
  have hI2 := HId.out.below hB2
  have hc2 := hI2.cell
  have hl2 := hI2.lt
  have HW := Lib.hid (HWi.out l.length c A w2.drew (own_slx hI2.own HId.out.right) (by omega))
  have HB2 := Lib.hid hB2
  clear hb2 hB2 hX2 hI2
  go_wp2_with fail
  refine wp_region_quiet_tail (C := fun w' => w' = w2.drew) 5 (by kernel_rfl) (by kernel_rfl) rfl ?_
  simp only [List.take_succ_cons, List.take_zero, List.drop_succ_cons, List.drop_zero]
  repeat (go_big_quiet_step (fail))
  refine wpQuiet_nil ?_
  rintro _ rfl
  unfold rv at HW
  go_wp2_with fail
  refine HW.out.mono ?_
  rintro e w5 ⟨u, rfl, ho5, hb5⟩
  obtain ⟨A5, c5, rfl⟩ := row_slice ho5
  have hB5 := HB2.out.trans ((show Below w.heap.size w2 w2.drew from (Below.refl _ _).drew).trans (hb5.mono HB2.out.size))
  have hI5 := HId.out.below hB5
  have HO5 := Lib.hid ho5
  have HB5 := Lib.hid hB5
  have HI5 := Lib.hid hI5
  have HSJ := Lib.hid (own_slx ho5 HJr.out)
  have HSl := Lib.hid (own_slx hI5.own HId.out.right)
  have HcJ := Lib.hid (fun W (hW : Below w5.heap.size w5 W) => rmany_any J.length c5 A5 J W (HSJ.out.below hW) (by omega) HJr.out)
  have Hcl := Lib.hid (fun W (hW : Below w5.heap.size w5 W) => rmany_any l.length c A l W (HSl.out.below hW) (by omega) HId.out.right)
  rw [← HEJ.out] at HcJ
  rw [← HEl.out] at Hcl
  have hcell : ∀ y : After w5, y.wd.cell? ⟨g, 0, none⟩ = some (.slice A l.length c) := fun y => y.cell HI5.out.cell
  clear ho5 hb5 hB5 hI5 x0 x1 x2 hc2
  go_wp2_with fail
  refine wp_region_after (by kernel_rfl) (by kernel_rfl) ?_
  repeat (go_big_quiet_step ((go_at_call 28; with_reducible first | exact after_call (HcJ.out _ (After.below _)) | exact after_call (Hcl.out _ (After.below _)))))
  refine wpQuiet_nil ?_
  rintro _ ⟨y, rfl⟩
  obtain ⟨w6, hw6⟩ : ∃ w6, w6 = y.wd := ⟨_, rfl⟩
  have hb6 : Below w5.heap.size w5 w6 := by rw [hw6]; exact y.below
  rw [← hw6]
  have hi6 := HI5.out.below hb6
  have hc6 := hi6.cell
  have hf6 := hi6.blk.frozen 0
  have HI6 := Lib.hid hi6
  have HB6 := Lib.hid hb6
  clear hb6 hi6 hcell hw6
  go_wp2_with fail
  refine bodyPost_ret (v := .tuple #[.int .i64 (mJ - ml), .int .i64 0]) (by simp [results, Try.results12, go_sem]) rfl ?_
  have ho6 : w6.ownsRow 0 33 3 (.slice A5 J.length c5) J.length (rcs J) := row_mono (row_below HO5.out HB6.out) (Nat.zero_le _)
  refine ⟨.slice A5 J.length c5, J, by rw [HEJ.out, HEl.out], ⟨HI6.out.blk.set_ 0 _, ?_, HIs.out.1, HJr.out⟩, HIs.out, ?_⟩
  · exact ho6.kept (gb_setCell (gb_refl w6 (some g)) (p := ⟨g, 0, none⟩) (.inl rfl) _) (.inr (row_not ho6 HI6.out.blk (by decide)))
  · exact gb_setCell (gb_of_below (HB5.out.trans (HB6.out.mono HB5.out.size)) (some g)) (p := ⟨g, 0, none⟩) (.inl rfl) _
end Go.Proofs.Ytkkmleglaljacaa
