/- Add, as the program does it. -/
import Derived.Test.YtkkmleglaljacaaE
namespace Go.Proofs.Ytkkmleglaljacaa
open Go.RowKit

theorem src_new (W : World) (x : Rg) : Src Try.prog 3 22 (.slice (some ⟨W.heap.size, 0, none⟩) 1 1) 1 (rc x) (W.alloc (.cells #[.int .i64 x.w, .int .i64 x.f, .int .i64 x.t] 33)) :=
  Src.ofSlice _ Try.underlying22 ⟨W.heap.size, 0, none⟩ 1 1 (rc x) rfl (cells3_new W 33 _ _ _) (by simp [rc, Value.oneCell'])
theorem src_at {W : World} {q : Nat} {x : Rg} (h : Blk W q 33 #[.int .i64 x.w, .int .i64 x.f, .int .i64 x.t]) : Src Try.prog 3 22 (.slice (some ⟨q, 0, none⟩) 1 1) 1 (rc x) W :=
  Src.ofSlice _ Try.underlying22 ⟨q, 0, none⟩ 1 1 (rc x) rfl (fun j u hu => by
    have e : (Addr.mk q 0 none).add j = ⟨q, j, none⟩ := by unfold Addr.add; split <;> simp_all
    rw [e, h.cell]
    simpa [rc] using hu) (by simp [rc, Value.oneCell'])
theorem OwnC.slx {W : World} {B n c : Nat} {A : Option Addr} {l : List Rg} {x : Rg} (h : OwnC W B 3 (.slice A n c) n (rcs l ++ rc x)) (hl : ∀ y ∈ l, RightR y) (hx : RightR x) : Sl W 3 RgC A n c (l ++ [x]) := by
  have e : rcs l ++ rc x = rcs (l ++ [x]) := by rw [rcs_append]; simp [rcs]
  have hn : n = (l ++ [x]).length := by
    have := h.1
    rw [e, rcs_len] at this
    omega
  subst hn
  rw [e] at h
  obtain ⟨A', c', e2, h2⟩ := h.sl (fun y hy => by
    rcases List.mem_append.1 hy with hy | hy
    · exact (hl y hy).r64
    · cases List.mem_singleton.1 hy; exact hx.r64)
  cases e2
  exact h2
theorem right_snoc {l : List Rg} {x : Rg} (hl : ∀ y ∈ l, RightR y) (hx : RightR x) : ∀ y ∈ l ++ [x], RightR y := fun y hy => by
  rcases List.mem_append.1 hy with hy | hy
  · exact hl y hy
  · cases List.mem_singleton.1 hy; exact hx
theorem small1 {n : Nat} (h : n ≤ 900) : n + 1 ≤ 1000000 := by omega
theorem own_slx {W : World} {B n c : Nat} {e : TypeId} {A : Option Addr} {l : List Rg} (h : W.ownsRow B e 3 (.slice A n c) l.length (rcs l)) (hl : ∀ y ∈ l, RightR y) : Sl W 3 RgC A n c l := by
  obtain ⟨A', c', e2, h2⟩ := own_sl h (fun y hy => (hl y hy).r64)
  cases e2
  exact h2
theorem small63 {n : Nat} (h : n ≤ 1000000) : n + 1 ≤ maxLen := by unfold maxLen; omega
theorem smallB {n : Nat} (h : n ≤ 1000000) {i : TypeInfo} (hi : i.bytes = 24) : (n + 1) * i.bytes ≤ 140737488355328 := by rw [hi]; omega

set_option maxRecDepth 100000 in
set_option maxHeartbeats 1600000 in
theorem add_ok (g : Nat) (v : Value) (l : List Rg) (x : Rg) (w : World) (h : Idx 49 w g v l) (hx : RightR x) (hm : l.length ≤ 900) :
    Calls Try.prog 11 #[.pointer (some ⟨g, 0, none⟩), rv x] w fun e w' => ∃ v' l', e = .returned (.tuple #[.int .i64 (manyL l' - manyL l), .int .i64 0]) ∧ Idx 49 w' g v' l' ∧ Is l' (l ++ [x]) ∧ w.grownBy w' (some g) := by
  obtain ⟨w1, hw1⟩ : ∃ w1, w1 = w.alloc (.cells #[.int .i64 x.w, .int .i64 x.f, .int .i64 x.t] 33) := ⟨_, rfl⟩
  have hb1 : Below w.heap.size w w1 := by rw [hw1]; exact (Below.refl _ w).alloc (Nat.le_refl _) _
  have hs1 : w1.heap.size = w.heap.size + 1 := by rw [hw1]; simp
  have hX : Blk w1 w.heap.size 33 #[.int .i64 x.w, .int .i64 x.f, .int .i64 x.t] := by rw [hw1]; exact Blk.new _ _ _
  have h1 := h.below hb1
  have hglt := h.lt
  obtain ⟨A, c, rfl, hsl⟩ := h1.sl
  have HRt := Lib.hid (fun W => right_any x W)
  have hf : rightB x = true := decide_eq_true hx
  rw [hf] at HRt
  have hnot : ∀ (x : Bool) (w : World), (Op.unary .not (.bool x)).run Try.prog w = .ok (.bool (!x)) w := fun _ _ => rfl
  have HW1 := Lib.hid hw1
  have HIdw := Lib.hid h
  have Hb1 := Lib.hid hb1
  have HS1 := Lib.hid hs1
  have HH := Lib.hid h1
  have HX := Lib.hid hX
  have HSl := Lib.hid hsl
  have HRx := Lib.hid hx
  obtain ⟨i0, hi0, hz0, hz1, hz2⟩ := info_parts info33
  have HI := Lib.hid hi0
  have HZ0 := Lib.hid hz0
  have HZ1 := Lib.hid hz1
  have HZ2 := Lib.hid hz2
  clear hw1 hb1 hs1 hX h1 hsl hx hf h hi0 hz0 hz1 hz2
  unfold rv at HRt ⊢
  go_enter Try.func11, Try.ntmps11
  go_wp2_with fail
  rw [← HW1.out]
  refine (HRt.out _).mono ?_
  rintro e w2 ⟨rfl, hb2⟩
  have HK := Lib.hid (show KK g w.heap.size (.slice A l.length c) x w2 from ⟨(HH.out.below hb2).blk, HX.out.below hb2 HX.out.lt⟩)
  have HB2 := Lib.hid (Hb1.out.trans (hb2.mono Hb1.out.size))
  have HS2 := Lib.hid (HSl.out.below hb2)
  have HSz2 := Lib.hid (show w.heap.size + 1 ≤ w2.heap.size by have := hb2.size; have := HS1.out; omega)
  have HId2 := Lib.hid (HH.out.below hb2)
  clear hb2
  go_wp2_with fail
  have HM := Lib.hid (show l.length ≤ 1000000 by omega)
  have HGS := Lib.hid (show g < w2.drew.heap.size from Nat.lt_trans hglt HSz2.out)
  have HWS := Lib.hid (show w.heap.size < w2.drew.heap.size from HSz2.out)
  have HGS2 := Lib.hid (show g < (w2.alloc (.cells #[.int .i64 x.w, .int .i64 x.f, .int .i64 x.t] 33)).drew.heap.size from Nat.lt_of_lt_of_le (Nat.lt_trans hglt HSz2.out) (by simp))
  have HWS3 := Lib.hid (show w.heap.size < (w2.alloc (.cells #[.int .i64 x.w, .int .i64 x.f, .int .i64 x.t] 33)).drew.heap.size from Nat.lt_of_lt_of_le HSz2.out (by simp))
  have HM9 := Lib.hid hm
  have HWS2 := Lib.hid (show w.heap.size ≤ w2.drew.heap.size from Nat.le_of_lt HSz2.out)
  go_region_held3 (fun w' => w'.cell? ⟨g, 0, none⟩ = some (.slice A l.length c) ∧ w'.cell? ⟨w.heap.size, 0, none⟩ = some (.int .i64 x.w) ∧ w'.cell? ⟨w.heap.size, 1, none⟩ = some (.int .i64 x.f) ∧ w'.cell? ⟨w.heap.size, 2, none⟩ = some (.int .i64 x.t))
    (with_reducible first | exact KK.cells HK5.out | exact KK.cells HK4.out | exact KK.cells HK3.out | exact KK.cells (KK.alloc HK3.out _) | exact KK.cells (KK.drew HK.out) | exact KK.cells (KK.drew (KK.alloc HK.out _)) | exact KK.cells (KK.alloc (KK.drew HK.out) _) | exact KK.cells (KK.alloc HK.out _) | exact KK.cells HK.out)
    (first
      | (go_at_call 25; refine (clone_any l.length c A l _ (HS2.out.below (Below.refl _ _).drew) HM.out).mono ?_; rintro e w3 ⟨u, rfl, hO3, hb3⟩; obtain ⟨A3, c3, rfl⟩ := OwnC.isSlice hO3; have HK3 := Lib.hid (KK.below (KK.drew HK.out) hb3); have HO3 := Lib.hid hO3; have HB3 := Lib.hid (And.intro (HB2.out.drew.trans (hb3.mono HB2.out.size)) hb3.size); clear hO3 hb3)
      | (go_at_call 25; refine (clone_any l.length c A l _ (HS2.out.below ((Below.refl _ _).alloc (Nat.le_refl _) _).drew) HM.out).mono ?_; rintro e w3 ⟨u, rfl, hO3, hb3⟩; obtain ⟨A3, c3, rfl⟩ := OwnC.isSlice hO3; have HK3 := Lib.hid (KK.below (KK.drew (KK.alloc HK.out _)) hb3); have HO3 := Lib.hid hO3; have HB3 := Lib.hid (And.intro ((HB2.out.alloc HB2.out.size _).drew.trans (hb3.mono (Nat.le_trans HB2.out.size (by simp)))) hb3.size); have HQ3 := Lib.hid (Blk.below (Blk.drew (Blk.rg_new w2 x)) hb3 (by simp)); clear hO3 hb3)
      | (refine step_append_C rfl (.tmp 19) (.tmp 21) 22 22 rfl 33 i0 (.agg #[.int .i64 0, .int .i64 0, .int .i64 0]) 3 Try.underlying22 HI.out HZ0.out HZ1.out rfl (by decide) _ _ _ (rcs l) rfl (HO3.out.alloc _) _ rfl 1 (rc x) (src_new _ x) (small63 HM.out) (smallB HM.out HZ2.out) (Nat.le_trans HB3.out.2 (by simp)) ?_; intro v4 w4 ho4 hg4 _; obtain ⟨A4, c4, rfl⟩ := OwnC.isSlice ho4; have HK4 := Lib.hid (KK.grown (KK.alloc HK3.out _) (HO3.out.alloc _) hg4 HGS.out HWS.out); have HO4 := Lib.hid ho4; have HB4 := Lib.hid (gb_own (HB3.out.1.alloc (Nat.le_trans HWS2.out HB3.out.2) _) HWS2.out (Nat.le_trans HWS2.out (Nat.le_trans HB3.out.2 (by simp))) (HO3.out.alloc _) hg4); clear ho4 hg4)
      | (refine step_append_C rfl (.tmp 19) (.tmp 21) 22 22 rfl 33 i0 (.agg #[.int .i64 0, .int .i64 0, .int .i64 0]) 3 Try.underlying22 HI.out HZ0.out HZ1.out rfl (by decide) _ _ _ (rcs l) rfl HO3.out _ rfl 1 (rc x) (src_at HQ3.out) (small63 HM.out) (smallB HM.out HZ2.out) HB3.out.2 ?_; intro v4 w4 ho4 hg4 _; obtain ⟨A4, c4, rfl⟩ := OwnC.isSlice ho4; have HK4 := Lib.hid (KK.grown HK3.out HO3.out hg4 HGS2.out HWS3.out); have HO4 := Lib.hid ho4; have HB4 := Lib.hid (gb_own HB3.out.1 (Nat.le_of_lt HWS3.out) (Nat.le_trans (Nat.le_of_lt HWS3.out) HB3.out.2) HO3.out hg4); clear ho4 hg4)
      | (go_at_call 24; refine (joined_any _ c4 A4 (l ++ [x]) w4 (OwnC.slx HO4.out HId2.out.right HRx.out) (small1 HM9.out) (right_snoc HId2.out.right HRx.out)).mono ?_; rintro e w5 ⟨u5, s, rfl, hp, hs, ho5, hb5⟩; obtain ⟨A5, c5, rfl⟩ := row_slice ho5; have HK5 := Lib.hid (KK.below HK4.out hb5); have HP5 := Lib.hid (And.intro hp (And.intro hs (And.intro ho5 (HB4.out.trans (hb5.mono HB4.out.size))))); clear hp hs ho5 hb5))
  all_goals
    rename_i hHeld
    clear hHeld
    obtain ⟨J, hJ⟩ : ∃ J, joinAll s = J := ⟨_, rfl⟩
    rw [hJ] at HP5 ⊢
    obtain ⟨hp, hs, ho5, hb5⟩ := HP5.out
    have hIs : Is J (l ++ [x]) := by rw [← hJ]; exact joinAll_is hp hs (fun y hy => (right_snoc HId2.out.right HRx.out y hy).le)
    have hJr := hIs.right (right_snoc HId2.out.right HRx.out)
    have hJl : J.length ≤ 901 := by
      have := hIs.len (fun y hy => (right_snoc HId2.out.right HRx.out y hy).le)
      simp at this
      omega
    have hmJ := many_bound hJr J.length
    rw [List.take_length] at hmJ
    have hml := many_bound HId2.out.right l.length
    rw [List.take_length] at hml
    obtain ⟨mJ, emJ⟩ : ∃ m, m = manyL J := ⟨_, rfl⟩
    obtain ⟨ml, eml⟩ : ∃ m, m = manyL l := ⟨_, rfl⟩
    have q1 : 0 ≤ mJ ∧ mJ ≤ 4611686018427387904 := by rw [emJ]; omega
    have q2 : 0 ≤ ml ∧ ml ≤ 4611686018427387904 := by rw [eml]; omega
    obtain ⟨q1, q1'⟩ := q1
    obtain ⟨q2, q2'⟩ := q2
    have hd : decide ((J.length : Int) > 1000) = false := decide_eq_false (by omega)
    have HIs := Lib.hid hIs
    have HJr := Lib.hid hJr
    have HJl := Lib.hid hJl
    have HO5 := Lib.hid ho5
    have HB5 := Lib.hid hb5
    have HSJ := Lib.hid (own_slx ho5 hJr)
    have HId5 := Lib.hid (own_slx (HIdw.out.below hb5).own HId2.out.right)
    have HcJ := Lib.hid (fun W (hW : Below w5.heap.size w5 W) => many_any J.length c5 A5 J W (HSJ.out.below hW) (by omega) hJr)
    have Hcl := Lib.hid (fun W (hW : Below w5.heap.size w5 W) => many_any l.length c A l W (HId5.out.below hW) (by omega) HId2.out.right)
    rw [← emJ] at HcJ
    rw [← eml] at Hcl
    have hcell : ∀ y : After w5, y.wd.cell? ⟨g, 0, none⟩ = some (.slice A l.length c) := fun y => y.cell HK5.out.cells.1
    clear hp hs ho5 hb5 hIs hJr hml hmJ
    go_wp2_with fail
    refine wp_region_after (by kernel_rfl) (by kernel_rfl) ?_
    repeat (go_big_quiet_step ((go_at_call 26; with_reducible first | exact after_call (HcJ.out _ (After.below _)) | exact after_call (Hcl.out _ (After.below _)))))
    refine wpQuiet_nil ?_
    rintro _ ⟨y, rfl⟩
    obtain ⟨w6, hw6⟩ : ∃ w6, w6 = y.wd := ⟨_, rfl⟩
    have hb6 : Below w5.heap.size w5 w6 := by rw [hw6]; exact y.below
    rw [← hw6]
    have hk6 := KK.below HK5.out hb6
    have hc6 := hk6.cells.1
    have hf6 := hk6.1.frozen 0
    have HK6 := Lib.hid hk6
    have HB6 := Lib.hid hb6
    clear hb6 hk6 hcell hw6
    go_wp2_with fail
    refine bodyPost_ret (v := .tuple #[.int .i64 (manyL J - manyL l), .int .i64 0]) (by simp [results, Try.results11, go_sem]) rfl ?_
    have ho6 : w6.ownsRow 0 33 3 (.slice A5 J.length c5) J.length (rcs J) := row_mono (row_below HO5.out HB6.out) (Nat.zero_le _)
    refine ⟨.slice A5 J.length c5, J, rfl, ⟨HK6.out.1.set_ 0 _, ?_, HIs.out.1, HJr.out⟩, HIs.out, ?_⟩
    · exact ho6.kept (gb_setCell (gb_refl w6 (some g)) (p := ⟨g, 0, none⟩) (.inl rfl) _) (.inr (row_not ho6 HK6.out.1 (by decide)))
    · exact gb_setCell (gb_of_below (HB5.out.trans (HB6.out.mono HB5.out.size)) (some g)) (p := ⟨g, 0, none⟩) (.inl rfl) _
end Go.Proofs.Ytkkmleglaljacaa
