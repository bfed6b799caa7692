/- Done twice is as done once; the walk of TreeLast. -/
import Derived.Test.YthaekoeekpofpaaX6a
namespace Go.Proofs.Ythaekoeekpofpaa
open Go.RowKit
attribute [local go_sem] bs_size bs_getElem bs_list bs_append

theorem first_before {p : Nd → Bool} {xs : List Nd} {k : Nat} (h : firstI p xs = k) : ∃ hk : k < xs.length, p xs[k] = true ∧ ∀ j (hj : j < xs.length), j < k → p xs[j] = false := by
  unfold firstI at h
  cases hf : xs.findIdx? p with
  | none => rw [hf] at h; have h : (-1 : Int) = k := h; omega
  | some i =>
    rw [hf] at h
    have h : (i : Int) = k := h
    obtain rfl : i = k := by omega
    obtain ⟨h1, h2, h3⟩ := List.findIdx?_eq_some_iff_getElem.1 hf
    exact ⟨h1, h2, fun j hj hlt => by have := h3 j hlt; simpa using this⟩
theorem turnP_id (xs : List Nd) (x : TOp) (y : Nd) : (turnP xs x y).1.id = y.id := by
  unfold turnP
  split
  · rfl
  · split
    · rfl
    · split <;> rfl
theorem turnP_again (xs xs' : List Nd) (x : TOp) (y : Nd) : (turnP xs' x (turnP xs x y).1).1 = (turnP xs x y).1 := by
  unfold turnP
  by_cases h2 : x.kind = 2
  · simp [h2]
  · by_cases h3 : x.kind = 3
    · simp [h3]
    · by_cases h4 : x.kind = 4 <;> simp [h2, h3, h4]
theorem first_set {xs : List Nd} {k : Nat} {s : St} {z : Nd} (h : firstI (isId s) xs = k) (hz : z.id = s) : firstI (isId s) (xs.set k z) = k := by
  obtain ⟨hk, _, hb⟩ := first_before h
  refine firstI_at (by rw [List.length_set]; exact hk) (by rw [List.getElem_set_self]; simp [isId, hz]) (fun j hj hlt => ?_)
  rw [List.getElem_set_ne (by omega)]
  exact hb j (by rw [List.length_set] at hj; exact hj) hlt
theorem doN_twice (xs : List Nd) (x : TOp) (hk : x.kind ≠ 1) : doN (doN xs x) x = doN xs x := by
  rcases firstI_cases (isId x.node) xs with ⟨k, hkl, hfk, hp⟩ | ⟨hfk, _⟩
  · have e1 := doN_at hkl hfk
    rw [if_neg hk] at e1
    by_cases h : (turnP xs x xs[k]).2 = true
    · rw [if_pos h] at e1
      have hid : (turnP xs x xs[k]).1.id = x.node := by rw [turnP_id]; exact of_decide_eq_true hp
      have hf2 := first_set hfk hid
      have hkl2 : k < (xs.set k (turnP xs x xs[k]).1).length := by rw [List.length_set]; exact hkl
      have e2 := doN_at hkl2 hf2
      rw [if_neg hk, List.getElem_set_self, turnP_again] at e2
      rw [e1, e2]
      split
      · rw [List.set_set]
      · rfl
    · rw [if_neg h] at e1
      rw [e1, e1]
  · have e1 : doN xs x = xs := by rw [doN_no hfk, if_neg hk]
    rw [e1, e1]

set_option maxRecDepth 100000 in
set_option maxHeartbeats 3200000 in
theorem law_last (A : Option Addr) (n c : Nat) (l : List TOp) (x : TOp) (w : World) (hx : Ops w A n c l) (hop : OpS x) :
    Calls Try.prog 8 #[.slice A n c, ov x] w fun e w' => e = .returned (.bool true) ∧ Below w.heap.size w w' := by
  have hn := hx.len
  have hmx := hx.max
  have hle := hx.le
  have hb1 : Below w.heap.size w (w.alloc (.cells (oc x).toArray 32)) := (Below.refl _ _).alloc (Nat.le_refl _) _
  have hB1 := Blk.new w 32 (oc x).toArray
  have hx1 := hx.below hb1
  obtain ⟨w1, hw1⟩ : ∃ w1, w1 = w.alloc (.cells (oc x).toArray 32) := ⟨_, rfl⟩
  obtain ⟨q1, hq1⟩ : ∃ q1, q1 = w.heap.size := ⟨_, rfl⟩
  have hS1 : w.heap.size ≤ w1.heap.size := by rw [hw1]; simp
  rw [← hw1] at hb1 hB1 hx1
  rw [← hq1] at hB1
  have HW := Lib.hid (show w1 = w.alloc (.cells #[.int .i64 x.st.1, .int .i64 x.st.2, .int .i64 x.seq, .int .i64 x.kind, .int .i64 x.node.1, .int .i64 x.node.2, .bool x.dir, .int .i64 x.par.1, .int .i64 x.par.2, .string (bs x.nm), .string (bs x.mf)] 32) from hw1)
  have HQ := Lib.hid hq1
  have HB1 := Lib.hid hb1
  have HS1 := Lib.hid hS1
  have HBk := Lib.hid hB1
  have HX1 := Lib.hid hx1
  have HOp := Lib.hid hop
  have HF := Lib.hid (few_is A n c l w1 hx1)
  have HFl := Lib.hid (foldN_len l)
  obtain ⟨o0, o1, o2, o3, o4, o5, o6, o7, o8, o9, o10⟩ := blk11 hB1
  clear hx1 hB1 hb1 hw1 hq1 hop hx hS1
  unfold ov
  have fin : ∀ (w' : World), RowKit.Hid (Below w.heap.size w w') → Calls Try.prog 15 #[] w' (fun e w'' => e = .returned (.bool true) ∧ Below w.heap.size w w'' ∧ w'.heap.size ≤ w''.heap.size) := fun w' h => (awake_any w').mono fun e w'' hq => ⟨hq.1, h.out.trans (hq.2.mono h.out.size), hq.2.size⟩
  have HFin := Lib.hid fin
  clear fin
  cases hfb : fewB l with
  | false =>
    rw [hfb] at HF
    clear hfb
    go_enter Try.func8, Try.ntmps8
    go_upto_region 1 with (fail)
    rw [← HW.out, ← HQ.out]
    go_wp2_with fail
    refine HF.out.mono ?_
    rintro e w2 ⟨rfl, hb2⟩
    have HB2 := Lib.hid (HB1.out.trans (hb2.mono HS1.out))
    clear hb2
    go_wp2_with fail
    refine (HFin.out w2 HB2).mono ?_
    rintro e w3 ⟨rfl, hb3, _⟩
    have HB3 := Lib.hid hb3
    clear hb3
    go_wp2_with fail
    go_ret
    exact ⟨rfl, HB3.out⟩
  | true =>
    rw [hfb] at HF
    have HM : RowKit.Hid (n ≤ 150) := Lib.hid (by rw [← hn]; exact fewB_le hfb)
    clear hfb
    by_cases h100 : (n : Int) > 100
    · have hd : decide ((n : Int) > 100) = true := decide_eq_true h100
      clear h100
      go_enter Try.func8, Try.ntmps8
      go_upto_region 1 with (fail)
      rw [← HW.out, ← HQ.out]
      go_wp2_with fail
      refine HF.out.mono ?_
      rintro e w2 ⟨rfl, hb2⟩
      have HB2 := Lib.hid (HB1.out.trans (hb2.mono HS1.out))
      clear hb2
      go_wp2_with fail
      refine (HFin.out w2 HB2).mono ?_
      rintro e w3 ⟨rfl, hb3, _⟩
      have HB3 := Lib.hid hb3
      clear hb3
      go_wp2_with fail
      go_ret
      exact ⟨rfl, HB3.out⟩
    have hd : decide ((n : Int) > 100) = false := decide_eq_false h100
    clear h100
    have HOw := Lib.hid (fun (w' : World) (h : Ops w' A n c l) => own_is A n c l w' h)
    cases hob : ownB l with
    | false =>
      rw [hob] at HOw
      clear hob
      go_enter Try.func8, Try.ntmps8
      go_upto_region 1 with (fail)
      rw [← HW.out, ← HQ.out]
      go_wp2_with fail
      refine HF.out.mono ?_
      rintro e w2 ⟨rfl, hb2⟩
      have HX2 := Lib.hid (HX1.out.below hb2)
      have HB2 := Lib.hid (HB1.out.trans (hb2.mono HS1.out))
      clear hb2
      go_wp2_with fail
      refine (HOw.out w2 HX2.out).mono ?_
      rintro e w3 ⟨rfl, hb3⟩
      have HB3 := Lib.hid (HB2.out.trans (hb3.mono HB2.out.size))
      clear hb3
      go_wp2_with fail
      refine (HFin.out w3 HB3).mono ?_
      rintro e w4 ⟨rfl, hb4, _⟩
      have HB4 := Lib.hid hb4
      clear hb4
      go_wp2_with fail
      go_ret
      exact ⟨rfl, HB4.out⟩
    | true =>
      rw [hob] at HOw
      clear hob
      have HFx := Lib.hid (fun (w' : World) => few_is _ 1 1 [x] _ (Ops.one (w := w') HOp.out))
      unfold oc at HFx
      cases hfx : fewB [x] with
      | false =>
        rw [hfx] at HFx
        clear hfx
        go_enter Try.func8, Try.ntmps8
        go_upto_region 1 with (fail)
        rw [← HW.out, ← HQ.out]
        go_wp2_with fail
        refine HF.out.mono ?_
        rintro e w2 ⟨rfl, hb2⟩
        have HX2 := Lib.hid (HX1.out.below hb2)
        have HB2 := Lib.hid (HB1.out.trans (hb2.mono HS1.out))
        have HBk2 := Lib.hid (Blk.below HBk.out hb2 HBk.out.lt)
        clear hb2
        go_wp2_with fail
        refine (HOw.out w2 HX2.out).mono ?_
        rintro e w3 ⟨rfl, hb3⟩
        have HB3 := Lib.hid (HB2.out.trans (hb3.mono HB2.out.size))
        have HBk3 := Lib.hid (Blk.below HBk2.out hb3 HBk2.out.lt)
        clear hb3 o0 o1 o2 o3 o4 o5 o6 o7 o8 o9 o10
        obtain ⟨o0, o1, o2, o3, o4, o5, o6, o7, o8, o9, o10⟩ := blk11 HBk3.out
        have HB3a := Lib.hid (HB3.out.alloc HB3.out.size (.cells (oc x).toArray 32))
        have HF3 := Lib.hid (HFx.out w3)
        go_wp2_with fail
        refine HF3.out.mono ?_
        rintro e w4 ⟨rfl, hb4⟩
        have HB4 := Lib.hid (HB3a.out.trans (hb4.mono HB3a.out.size))
        clear hb4
        go_wp2_with fail
        refine (HFin.out w4 HB4).mono ?_
        rintro e w5 ⟨rfl, hb5, _⟩
        have HB5 := Lib.hid hb5
        clear hb5
        go_wp2_with fail
        go_ret
        exact ⟨rfl, HB5.out⟩
      | true =>
        rw [hfx] at HFx
        clear hfx
        by_cases h1 : x.kind = 1
        · have e1 : (x.kind == 1) = true := by rw [h1]; rfl
          clear h1
          go_enter Try.func8, Try.ntmps8
          go_upto_region 1 with (fail)
          rw [← HW.out, ← HQ.out]
          go_wp2_with fail
          refine HF.out.mono ?_
          rintro e w2 ⟨rfl, hb2⟩
          have HX2 := Lib.hid (HX1.out.below hb2)
          have HB2 := Lib.hid (HB1.out.trans (hb2.mono HS1.out))
          have HBk2 := Lib.hid (Blk.below HBk.out hb2 HBk.out.lt)
          clear hb2
          go_wp2_with fail
          refine (HOw.out w2 HX2.out).mono ?_
          rintro e w3 ⟨rfl, hb3⟩
          have HB3 := Lib.hid (HB2.out.trans (hb3.mono HB2.out.size))
          have HBk3 := Lib.hid (Blk.below HBk2.out hb3 HBk2.out.lt)
          clear hb3 o0 o1 o2 o3 o4 o5 o6 o7 o8 o9 o10
          obtain ⟨o0, o1, o2, o3, o4, o5, o6, o7, o8, o9, o10⟩ := blk11 HBk3.out
          have HB3a := Lib.hid (HB3.out.alloc HB3.out.size (.cells (oc x).toArray 32))
          have HBk3a := Lib.hid (Blk.alloc HBk3.out (.cells (oc x).toArray 32))
          have HF3 := Lib.hid (HFx.out w3)
          go_wp2_with fail
          refine HF3.out.mono ?_
          rintro e w4 ⟨rfl, hb4⟩
          have HB4 := Lib.hid (HB3a.out.trans (hb4.mono HB3a.out.size))
          have HBk4 := Lib.hid (Blk.below HBk3a.out hb4 HBk3a.out.lt)
          clear hb4 o0 o1 o2 o3 o4 o5 o6 o7 o8 o9 o10
          obtain ⟨o0, o1, o2, o3, o4, o5, o6, o7, o8, o9, o10⟩ := blk11 HBk4.out
          go_wp2_with fail
          refine (HFin.out w4 HB4).mono ?_
          rintro e w5 ⟨rfl, hb5, _⟩
          have HB5 := Lib.hid hb5
          clear hb5
          go_wp2_with fail
          go_ret
          exact ⟨rfl, HB5.out⟩
        · have e1 : (x.kind == 1) = false := by simpa using h1
          have HTw := Lib.hid (doN_twice (foldN l) x h1)
          have HLen := Lib.hid (show (doN (foldN l) x).length ≤ 151 from Nat.le_trans (doN_len _ _) (by have := HFl.out; have := HM.out; omega))
          clear h1
          go_enter Try.func8, Try.ntmps8
          go_upto_region 1 with (fail)
          rw [← HW.out, ← HQ.out]
          go_wp2_with fail
          refine HF.out.mono ?_
          rintro e w2 ⟨rfl, hb2⟩
          have HX2 := Lib.hid (HX1.out.below hb2)
          have HB2 := Lib.hid (HB1.out.trans (hb2.mono HS1.out))
          have HBk2 := Lib.hid (Blk.below HBk.out hb2 HBk.out.lt)
          clear hb2
          go_wp2_with fail
          refine (HOw.out w2 HX2.out).mono ?_
          rintro e w3 ⟨rfl, hb3⟩
          have HX3 := Lib.hid (HX2.out.below hb3)
          have HB3 := Lib.hid (HB2.out.trans (hb3.mono HB2.out.size))
          have HBk3 := Lib.hid (Blk.below HBk2.out hb3 HBk2.out.lt)
          clear hb3 o0 o1 o2 o3 o4 o5 o6 o7 o8 o9 o10
          obtain ⟨o0, o1, o2, o3, o4, o5, o6, o7, o8, o9, o10⟩ := blk11 HBk3.out
          have HX3a := Lib.hid (HX3.out.below ((Below.refl _ _).alloc (Nat.le_refl _) (.cells (oc x).toArray 32)))
          have HB3a := Lib.hid (HB3.out.alloc HB3.out.size (.cells (oc x).toArray 32))
          have HBk3a := Lib.hid (Blk.alloc HBk3.out (.cells (oc x).toArray 32))
          have HF3 := Lib.hid (HFx.out w3)
          go_wp2_with fail
          refine HF3.out.mono ?_
          rintro e w4 ⟨rfl, hb4⟩
          have HX4 := Lib.hid (HX3a.out.below hb4)
          have HB4 := Lib.hid (HB3a.out.trans (hb4.mono HB3a.out.size))
          have HBk4 := Lib.hid (Blk.below HBk3a.out hb4 HBk3a.out.lt)
          clear hb4 o0 o1 o2 o3 o4 o5 o6 o7 o8 o9 o10
          obtain ⟨o0, o1, o2, o3, o4, o5, o6, o7, o8, o9, o10⟩ := blk11 HBk4.out
          have HQs : RowKit.Hid (∀ w', Blk w' q1 32 (oc x).toArray → w'.cell? ⟨q1, 0, none⟩ = some (.int .i64 x.st.1) ∧ w'.cell? ⟨q1, 1, none⟩ = some (.int .i64 x.st.2) ∧ w'.cell? ⟨q1, 2, none⟩ = some (.int .i64 x.seq) ∧ w'.cell? ⟨q1, 3, none⟩ = some (.int .i64 x.kind) ∧ w'.cell? ⟨q1, 4, none⟩ = some (.int .i64 x.node.1) ∧ w'.cell? ⟨q1, 5, none⟩ = some (.int .i64 x.node.2) ∧ w'.cell? ⟨q1, 6, none⟩ = some (.bool x.dir) ∧ w'.cell? ⟨q1, 7, none⟩ = some (.int .i64 x.par.1) ∧ w'.cell? ⟨q1, 8, none⟩ = some (.int .i64 x.par.2) ∧ w'.cell? ⟨q1, 9, none⟩ = some (.string (bs x.nm)) ∧ w'.cell? ⟨q1, 10, none⟩ = some (.string (bs x.mf))) := Lib.hid (fun w' h => blk11 h)
          have HDo := Lib.hid (fun (ys : List Nd) (A' : Option Addr) (c' : Nat) (w' : World) (h : Nds w' A' ys.length c' ys) (hm : ys.length ≤ 100000) => do_any x A' ys.length c' ys w' h HOp.out hm)
          unfold ov at HDo
          generalize hfo : foldN l = fs at *
          have HFo := Lib.hid hfo
          generalize hdo : doN fs x = gs at *
          have HDf := Lib.hid hdo
          clear hfo hdo
          go_upto_region 3 with (fail)
          go_region_held3 (fun w' => w'.cell? ⟨q1, 0, none⟩ = some (.int .i64 x.st.1) ∧ w'.cell? ⟨q1, 1, none⟩ = some (.int .i64 x.st.2) ∧ w'.cell? ⟨q1, 2, none⟩ = some (.int .i64 x.seq) ∧ w'.cell? ⟨q1, 3, none⟩ = some (.int .i64 x.kind) ∧ w'.cell? ⟨q1, 4, none⟩ = some (.int .i64 x.node.1) ∧ w'.cell? ⟨q1, 5, none⟩ = some (.int .i64 x.node.2) ∧ w'.cell? ⟨q1, 6, none⟩ = some (.bool x.dir) ∧ w'.cell? ⟨q1, 7, none⟩ = some (.int .i64 x.par.1) ∧ w'.cell? ⟨q1, 8, none⟩ = some (.int .i64 x.par.2) ∧ w'.cell? ⟨q1, 9, none⟩ = some (.string (bs x.nm)) ∧ w'.cell? ⟨q1, 10, none⟩ = some (.string (bs x.mf)))
            (with_reducible first | exact HQs.out _ HBk6.out | exact HQs.out _ HBk5.out | exact HQs.out _ HBk4.out.drew | exact HQs.out _ HBk4.out)
            (first
              | (go_at_call 13; (with_reducible refine (fold_any A n c l _ (HX4.out.below (Below.refl _ _).drew) (Nat.le_trans HM.out (by decide))).mono ?_); rw [HFo.out]; rintro e w5 ⟨A5, c5, rfl, hN5, hb5⟩; have HN5 := Lib.hid hN5; have HBk5 := Lib.hid (Blk.below HBk4.out.drew hb5 HBk4.out.drew.lt); have HB5 := Lib.hid (HB4.out.drew.trans (hb5.mono HB4.out.drew.size)))
              | (go_at_call 17; (with_reducible refine (HDo.out fs A5 c5 _ HN5.out (by have := HFl.out; have := HM.out; omega)).mono ?_); rw [HDf.out]; rintro e w6 ⟨A6, c6, rfl, hN6, hb6⟩; have HN6 := Lib.hid hN6; have HBk6 := Lib.hid (Blk.below HBk5.out hb6 HBk5.out.lt); have HB6 := Lib.hid (HB5.out.trans (hb6.mono HB5.out.size))))
          have HD7 := Lib.hid (HDo.out gs A6 c6 w6 HN6.out (Nat.le_trans HLen.out (by decide)))
          rw [HTw.out] at HD7
          clear o0 o1 o2 o3 o4 o5 o6 o7 o8 o9 o10
          obtain ⟨o0, o1, o2, o3, o4, o5, o6, o7, o8, o9, o10⟩ := blk11 HBk6.out
          go_wp2_with fail
          refine HD7.out.mono ?_
          rintro e w7 ⟨A7, c7, rfl, hN7, hb7⟩
          have HN7 := Lib.hid hN7
          have HN6b := Lib.hid (HN6.out.below hb7)
          have HB7 := Lib.hid (HB6.out.trans (hb7.mono HB6.out.size))
          clear hN7 hb7
          go_wp2_with fail
          refine (same_any A7 A6 _ c7 c6 gs w7 HN7.out HN6b.out).mono ?_
          rintro e w8 ⟨rfl, hb8⟩
          have HB8 := Lib.hid (HB7.out.trans (hb8.mono HB7.out.size))
          clear hb8
          go_wp2_with fail
          refine (HFin.out w8 HB8).mono ?_
          rintro e w9 ⟨rfl, hb9, _⟩
          have HB9 := Lib.hid hb9
          clear hb9
          go_wp2_with fail
          go_ret
          exact ⟨rfl, HB9.out⟩
end Go.Proofs.Ythaekoeekpofpaa
