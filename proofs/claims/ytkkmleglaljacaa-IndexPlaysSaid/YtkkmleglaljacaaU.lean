/- The law on what each Add answers. -/
import Derived.Test.YtkkmleglaljacaaT
namespace Go.Proofs.Ytkkmleglaljacaa
open Go.RowKit

/-- the two indexes and the question, side by side -/
structure PP (q g h : Nat) (who n : Int) (vx vr : Value) (l : List Rg) (w W : World) : Prop where
  x : Idx 49 W g vx l
  r : Idx 28 W h vr l
  ask : Blk W q 40 #[.int .i64 who, .int .i64 n]
  below : Below q w W
section
variable {q g h : Nat} {who n : Int} {vx vr : Value} {l : List Rg} {w W W' : World}
theorem PP.on (p : PP q g h who n vx vr l w W) (hq : q ≤ W.heap.size) (hb : Below W.heap.size W W') : PP q g h who n vx vr l w W' := ⟨p.x.below hb, p.r.below hb, p.ask.below hb p.ask.lt, p.below.trans (hb.mono hq)⟩
theorem PP.go (p : PP q g h who n vx vr l w W) (hb : Below W.heap.size W W') : PP q g h who n vx vr l w W' := p.on (Nat.le_of_lt p.ask.lt) hb
theorem PP.drew (p : PP q g h who n vx vr l w W) : PP q g h who n vx vr l w W.drew := p.go (Below.refl _ _).drew
theorem PP.cells (p : PP q g h who n vx vr l w W) : W.cell? ⟨h, 0, none⟩ = some vr ∧ W.cell? ⟨q, 0, none⟩ = some (.int .i64 who) ∧ W.cell? ⟨q, 1, none⟩ = some (.int .i64 n) :=
  ⟨p.r.cell, by rw [p.ask.cell]; rfl, by rw [p.ask.cell]; rfl⟩
end

theorem same_self (n1 c1 n2 c2 : Nat) (A1 A2 : Option Addr) (xs : List Rg) (w : World) (hx : Sl w 3 RgC A1 n1 c1 xs) (hy : Sl w 3 RgC A2 n2 c2 xs) (hlen : n1 ≤ 1000000) (h2 : n2 ≤ 1000000) :
    Calls Try.prog 13 #[.slice A1 n1 c1, .slice A2 n2 c2] w fun e w' => e = .returned (.bool true) ∧ Below w.heap.size w w' := by
  have h := same_any n1 c1 n2 c2 A1 A2 xs xs w hx hy hlen h2
  rwa [show sameB xs xs = true from by unfold sameB; simp] at h
theorem sameI_self (n1 c1 n2 c2 : Nat) (A1 A2 : Option Addr) (xs : List Int) (w : World) (hx : Sl w 1 IntC A1 n1 c1 xs) (hy : Sl w 1 IntC A2 n2 c2 xs) (hlen : n1 ≤ 1000000) (h2 : n2 ≤ 1000000) :
    Calls Try.prog 17 #[.slice A1 n1 c1, .slice A2 n2 c2] w fun e w' => e = .returned (.bool true) ∧ Below w.heap.size w w' := by
  have h := sameI_any n1 c1 n2 c2 A1 A2 xs xs w hx hy hlen h2
  rwa [show decide (xs = xs) = true from by simp] at h

set_option maxRecDepth 100000 in
set_option maxHeartbeats 3200000 in
theorem law_plays (A1 : Option Addr) (n1 c1 : Nat) (xs : List Rg) (who n : Int) (w : World) (hx : Sl w 3 RgC A1 n1 c1 xs) (_h1 : I64 who) (_h2 : I64 n) :
    Calls Try.prog 5 #[.slice A1 n1 c1, .agg #[.int .i64 who, .int .i64 n]] w fun e w' => e = .returned (.bool true) ∧ Below w.heap.size w w' := by
  have hl1 := hx.len
  have hm1 := hx.max
  have hle1 := hx.le
  obtain ⟨w0, hw0⟩ : ∃ w0, w0 = w.alloc (.cells #[.int .i64 who, .int .i64 n] 40) := ⟨_, rfl⟩
  have hb0 : Below w.heap.size w w0 := by rw [hw0]; exact (Below.refl _ w).alloc (Nat.le_refl _) _
  have hq : Blk w0 w.heap.size 40 #[.int .i64 who, .int .i64 n] := by rw [hw0]; exact Blk.new _ _ _
  have HW0 := Lib.hid hw0
  have HB0 := Lib.hid hb0
  have HQ0 := Lib.hid hq
  clear hw0 hb0 hq
  by_cases hbig : n1 > 150
  · have d1 : decide ((n1 : Int) > 150) = true := decide_eq_true (by omega)
    clear hbig hx
    go_enter Try.func5, Try.ntmps5
    go_wp2_with fail
    rw [← HW0.out]
    refine (new_any w0).mono ?_
    rintro e w1 ⟨rfl, hI, hb⟩
    have HB := Lib.hid (HB0.out.trans (hb.mono HB0.out.size))
    clear hI hb
    go_wp2_with fail
    refine (awake_any _).mono ?_
    rintro e w9 ⟨rfl, hb9⟩
    have hb10 := HB.out.trans (hb9.mono HB.out.size)
    clear hb9
    go_wp2_with fail
    go_ret
    exact ⟨rfl, hb10⟩
  have d1 : decide ((n1 : Int) > 150) = false := decide_eq_false (by omega)
  have hn1 : n1 ≤ 150 := by omega
  have HX := Lib.hid hx
  clear hbig hx
  go_enter Try.func5, Try.ntmps5
  go_wp2_with fail
  rw [← HW0.out]
  refine (new_any w0).mono ?_
  rintro e w1 ⟨rfl, hI, hb⟩
  have hbq : Below w1.heap.size w1 (w1.alloc (.cells #[.slice none 0 0] 28)) := (Below.refl _ _).alloc (Nat.le_refl _) _
  have hP0 : PP w.heap.size w0.heap.size w1.heap.size who n (.slice none 0 0) (.slice none 0 0) [] w (w1.alloc (.cells #[.slice none 0 0] 28)) :=
    ⟨hI.below hbq, idx_new 28 w1, (HQ0.out.below hb HQ0.out.lt).alloc _, (HB0.out.trans (hb.mono HB0.out.size)).alloc (Nat.le_trans HB0.out.size hb.size) _⟩
  have hsz0 := HQ0.out.lt
  have hsz1 := hI.lt
  obtain ⟨g, hg⟩ : ∃ g, g = w0.heap.size := ⟨_, rfl⟩
  obtain ⟨h, hh⟩ : ∃ h, h = w1.heap.size := ⟨_, rfl⟩
  obtain ⟨q, hqe⟩ : ∃ q, q = w.heap.size := ⟨_, rfl⟩
  rw [← hg, ← hh, ← hqe] at hP0
  have hqg : q < g := by omega
  have hgh : g < h := by omega
  have HGe := Lib.hid hg
  have HHe := Lib.hid hh
  have HQe := Lib.hid hqe
  have HP0 := Lib.hid hP0
  clear hI hb hg hh hqe hP0 hbq
  go_wp2_with fail
  rw [← HGe.out, ← HHe.out, ← HQe.out]
  go_loopw [7] (fun i wr => ∃ (k : Nat) (l : List Rg) (vx vr : Value), k ≤ n1 ∧ i = .int .i64 k ∧ PP q g h who n vx vr l w wr ∧ Is l ((xs.take k).filter rightB) ∧ l.length ≤ k) (fun i _ => n1 - (intOf i).toNat)
  case atStart => exact ⟨0, [], _, _, by omega, rfl, HP0.out, Is.nil_, by simp⟩
  case round =>
    obtain ⟨k, l, vx, vr, hk, rfl, hP, hIs, hll⟩ := hrel
    rcases Nat.lt_or_ge k n1 with hlt | hge
    · have hkl : k < xs.length := by omega
      obtain ⟨b, off, rfl, hbl, c0, c1', c2', _⟩ := Sl.rg_at HX.out hkl
      have hB : Below w.heap.size w wr := by rw [← HQe.out]; exact hP.below
      have d0 := cell_below hB hbl c0
      have d1' := cell_below hB hbl c1'
      have d2' := cell_below hB hbl c2'
      have hf := filter_plus xs k hkl
      obtain ⟨x, hxx⟩ : ∃ x, xs[k] = x := ⟨_, rfl⟩
      rw [hxx] at c0 c1' c2' d0 d1' d2' hf
      have HC := Lib.hid (And.intro c0 (And.intro c1' c2'))
      have HA := Lib.hid (add_any g vx l x wr hP.x (by omega))
      have HP := Lib.hid hP
      have HIs := Lib.hid hIs
      have HF := Lib.hid hf
      clear hP hIs hf hB hxx c0 c1' c2'
      go_wp2_with fail
      refine HA.out.mono ?_
      rintro e w2 ⟨v2, l2, a2, e2, rfl, hA⟩
      have hB2 : Below w.heap.size w w2 := by rw [← HQe.out]; exact below_gb HP.out.below hA.by_ (by omega) (Nat.le_of_lt HP.out.ask.lt)
      have qq := HC.out
      have f0 := cell_below hB2 hbl qq.1
      have f1 := cell_below hB2 hbl qq.2.1
      have f2 := cell_below hB2 hbl qq.2.2
      have HR := Lib.hid (radd_any h vr l x w2 (HP.out.r.other HP.out.x.blk (by decide) (by omega) hA.by_) (by omega))
      have HA2 := Lib.hid hA
      clear hA hB2 qq d0 d1' d2'
      go_wp2_with fail
      refine HR.out.mono ?_
      rintro e w3 ⟨v3, l3, a3, e3, rfl, hA⟩
      have hIr2 := HP.out.r.other HP.out.x.blk (by decide) (Nat.ne_of_gt hgh) HA2.out.by_
      have hl : l3 = l2 := (hA.is _ HIs.out).one (HA2.out.is _ HIs.out)
      have hask2 := HP.out.ask.grown HA2.out.by_ (fun e => by cases e; exact Nat.lt_irrefl _ hqg)
      have hask3 := hask2.grown hA.by_ (fun e => by cases e; exact Nat.lt_irrefl _ (Nat.lt_trans hqg hgh))
      have hB2 := below_gb HP.out.below HA2.out.by_ (by omega) (Nat.le_of_lt HP.out.ask.lt)
      have hB3 := below_gb hB2 hA.by_ (by omega) (Nat.le_of_lt hask2.lt)
      have hIx3 := HA2.out.idx.other hIr2.blk (by decide) (Nat.ne_of_lt hgh) hA.by_
      have hIr3 := hA.idx
      have ht3 := hA.told
      have ht2 := HA2.out.told
      rw [hl] at hIr3 ht3
      obtain ⟨rfl, rfl⟩ : a3 = a2 ∧ e3 = e2 := by
        rcases ht2 with ⟨r2, p2, q2⟩ | ⟨r2, p2, q2⟩ <;> rcases ht3 with ⟨r3, p3, q3⟩ | ⟨r3, p3, q3⟩
        · exact ⟨by rw [p2, p3], by rw [q2, q3]⟩
        · rw [r2] at r3; cases r3
        · rw [r2] at r3; cases r3
        · exact ⟨by rw [p2, p3], by rw [q2, q3]⟩
      have HP3 := Lib.hid (show PP q g h who n v2 v3 l2 w w3 from ⟨hIx3, hIr3, hask3, hB3⟩)
      have HI3 := Lib.hid (HA2.out.is _ HIs.out)
      have hl2 : l2.length ≤ k + 1 := by have := HA2.out.len; omega
      have hq1 : (a3 != a3) = false := by simp
      have hq2 : (e3 != e3) = false := by simp
      clear hA hIr2 hl hask2 hask3 hB2 hB3 hIx3 hIr3 ht3 ht2 f0 f1 f2
      obtain ⟨Ar, cr, rfl⟩ := HP3.out.r.slice
      go_wp2_with fail
      have HM := Lib.hid (show l2.length ≤ 1000 by omega)
      have HM1 := Lib.hid (show l2.length ≤ 1000000 by omega)
      have HM2 := Lib.hid (show l2.length ≤ 10000 by omega)
      have HM3 := Lib.hid (show l2.length ≤ 100000 by omega)
      have hvl : (vecL [] l2).length ≤ 1000000 := by
        have := (vec_ok l2 [] HP3.out.x.canon HP3.out.x.right (fun y hy _ => by simp)).len
        simp only [List.length_nil] at this
        omega
      obtain ⟨V, hV⟩ : ∃ V, vecL [] l2 = V := ⟨_, rfl⟩
      have HV1 := Lib.hid (fun W hW => vect_any g v2 l2 W hW HM2.out)
      have HV2 := Lib.hid (fun W hW => rvect_any h (.slice Ar l2.length cr) l2 W hW HM2.out)
      rw [hV] at HV1 HV2 hvl
      have HVl := Lib.hid hvl
      obtain ⟨bh, hbh⟩ : ∃ b, hasB l2 who n = b := ⟨_, rfl⟩
      have HH1 := Lib.hid (fun W hW => has_any g v2 l2 who n W hW HM3.out)
      have HH2 := Lib.hid (fun W hW => rhas_any h (.slice Ar l2.length cr) l2 who n W hW HM3.out)
      rw [hbh] at HH1 HH2
      have hbb : (bh != bh) = false := by cases bh <;> rfl
      have hnot : ∀ (x : Bool) (w : World), (Op.unary .not (.bool x)).run Try.prog w = .ok (.bool (!x)) w := fun _ _ => rfl
      clear hvl hV hbh
      go_region_held3 (fun w' => w'.cell? ⟨h, 0, none⟩ = some (.slice Ar l2.length cr) ∧ w'.cell? ⟨q, 0, none⟩ = some (.int .i64 who) ∧ w'.cell? ⟨q, 1, none⟩ = some (.int .i64 n))
        (with_reducible first | exact PP.cells HP9.out | exact PP.cells HP8.out | exact PP.cells HP7.out | exact PP.cells HP6.out | exact PP.cells HP5.out | exact PP.cells HP4.out | exact PP.cells HP3.out | exact PP.cells (PP.drew HP3.out))
        (first
          | (go_at_call 16; refine (rang_any g v2 l2 _ HP3.out.drew.x HM1.out).mono ?_; rintro e w4 ⟨A4, c4, rfl, hs4, hb4⟩; have HP4 := Lib.hid (HP3.out.drew.go hb4); have HS4 := Lib.hid hs4; clear hs4 hb4)
          | (go_at_call 13; refine (same_self _ c4 _ cr A4 Ar l2 _ HS4.out (own_slx HP4.out.r.own HP4.out.r.right) HM1.out HM1.out).mono ?_; rintro e w5 ⟨rfl, hb5⟩; have HP5 := Lib.hid (HP4.out.go hb5); clear hb5)
          | (go_at_call 18; refine (HV1.out _ HP5.out.x).mono ?_; rintro e w6 ⟨A6, c6, rfl, hs6, hb6⟩; have HP6 := Lib.hid (HP5.out.go hb6); have HS6 := Lib.hid hs6; clear hs6 hb6)
          | (go_at_call 19; refine (HV2.out _ HP6.out.r).mono ?_; rintro e w7 ⟨A7, c7, rfl, hs7, hb7⟩; have HP7 := Lib.hid (HP6.out.go hb7); have HS7 := Lib.hid hs7; have HS67 := Lib.hid (HS6.out.below hb7); clear hs7 hb7)
          | (go_at_call 17; refine (sameI_self _ c6 _ c7 A6 A7 V _ HS67.out HS7.out HVl.out HVl.out).mono ?_; rintro e w8 ⟨rfl, hb8⟩; have HP8 := Lib.hid (HP7.out.go hb8); clear hb8)
          | (go_at_call 20; refine (HH1.out _ HP8.out.x).mono ?_; rintro e w9 ⟨rfl, hb9⟩; have HP9 := Lib.hid (HP8.out.go hb9); clear hb9)
          | (go_at_call 21; refine (HH2.out _ HP9.out.r).mono ?_; rintro e w10 ⟨rfl, rfl⟩))
      go_wp2_with fail
      exact ⟨⟨k + 1, l2, v2, _, by omega, by go_num, HP9.out, by rw [HF.out]; exact HI3.out, by omega⟩, by simp [intOf]; omega⟩
    · obtain rfl : k = n1 := by omega
      have HB := Lib.hid (show Below w.heap.size w wr by rw [← HQe.out]; exact hP.below)
      clear hP hIs
      go_wp2_with fail
      refine (awake_any _).mono ?_
      rintro e w9 ⟨rfl, hb9⟩
      have hb10 := HB.out.trans (hb9.mono HB.out.size)
      clear hb9
      go_wp2_with fail
      go_ret
      exact ⟨rfl, hb10⟩
end Go.Proofs.Ytkkmleglaljacaa
