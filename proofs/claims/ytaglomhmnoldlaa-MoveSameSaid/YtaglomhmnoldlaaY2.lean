/- The document's Do, walked. -/
import Derived.Test.YtaglomhmnoldlaaY
namespace Go.Proofs.Ytaglomhmnoldlaa
set_option linter.unusedSimpArgs false
set_option linter.unusedVariables false
open Go.RowKit
attribute [local go_sem] bs_size bs_getElem bs_list bs_append

/-- a list of one's own grown, below an old size -/
structure Row (B : Nat) (w0 w : World) (v : Value) (ys : List Nd) : Prop where
  own : Own w B v ys
  below : Below B w0 w
  le : B ≤ w.heap.size
theorem Row.nil_ {B : Nat} {w0 w : World} (hb : Below B w0 w) (hs : B ≤ w.heap.size) : Row B w0 w (.slice none 0 0) [] := ⟨OwnC.nil_ _ _ _, hb, hs⟩
theorem Row.more {B : Nat} {w0 w w' : World} {v v' : Value} {ys zs : List Nd} {m : Nat} (h : Row B w0 w v ys) (hm : zs.length = m) (ho : OwnC w' B 7 v' (ys.length + m) (ncs ys ++ ncs zs)) (hg : w.grownBy w' v.ownBlock) : Row B w0 w' v' (ys ++ zs) :=
  ⟨by unfold Own; rw [ncs_append, List.length_append, hm]; exact ho, gb_own h.below (Nat.le_refl _) h.le h.own hg, Nat.le_trans h.le hg.size⟩
theorem src_nd_new (w : World) (y : Nd) (c : Nat) : Src Try.prog 7 32 (.slice (some ⟨w.heap.size, 0, none⟩) 1 c) 1 (ncs [y]) (w.alloc (.cells (nc y).toArray 38)) :=
  Src.ofSlice _ Try.underlying32 ⟨w.heap.size, 0, none⟩ 1 c (ncs [y]) (by simp [ncs, nc]) (fun j u hu => by
    rw [Addr.add_lit, Nat.zero_add, (Blk.new w 38 (nc y).toArray).cell]
    simpa [ncs] using hu) (ncs_one [y])
theorem Row.alloc {B : Nat} {w0 w : World} {v : Value} {ys : List Nd} (h : Row B w0 w v ys) (o : Obj) : Row B w0 (w.alloc o) v ys := ⟨OwnC.alloc h.own o, h.below.alloc h.le o, Nat.le_trans h.le (by simp)⟩
theorem Row.done {B : Nat} {w0 w : World} {v : Value} {ys : List Nd} (h : Row w0.heap.size w0 w v ys) (hs : Short ys) : Done w0 ys (.returned v) w := Done.own h.own hs h.below
theorem after_rless {a b : St} {W : World} (x : After W) {r : Bool} (hr : lessS a b = r) : Calls Try.prog 34 #[.agg #[.int .i64 a.1, .int .i64 a.2], .agg #[.int .i64 b.1, .int .i64 b.2]] x.wd fun e w' => e = .returned (.bool r) ∧ ∃ y : After W, w' = y.wd := after_call (by rw [← hr]; exact rless_any a b x.wd)
set_option maxRecDepth 100000 in
set_option maxHeartbeats 6400000 in
theorem rdo_make (x : TOp) (A : Option Addr) (n c : Nat) (xs : List Nd) (w : World) (hx : Nds w A n c xs) (hop : OpS x) (hm : n ≤ 100000) (hwhen : firstI (isId x.node) xs = -1 ∨ x.kind = 1) :
    Calls Try.prog 44 #[.slice A n c, ov x] w (Done w (doN xs x)) := by
  obtain ⟨i0, hi0, hz0, hz1, hz2⟩ := info_parts info37
  have HI := Lib.hid hi0
  have HZ0 := Lib.hid hz0
  have HZ1 := Lib.hid hz1
  have HZ2 := Lib.hid hz2
  clear hi0 hz0 hz1 hz2
  have hn := hx.len
  have hmx := hx.max
  have hle := hx.le
  have hsh := hx.short
  have hD1 := DoR.start w x A n c xs hx
  obtain ⟨w1, hw1⟩ : ∃ w1, w1 = w.alloc (.cells (oc x).toArray 31) := ⟨_, rfl⟩
  obtain ⟨q1, hq1⟩ : ∃ q1, q1 = w.heap.size := ⟨_, rfl⟩
  have hD1 : DoR w.heap.size q1 w w1 x A n c xs := by rw [hq1, hw1]; exact hD1
  have HP := Lib.hid (at_any x.node A n c xs w1 hD1.nds)
  have HW := Lib.hid (show w1 = w.alloc (.cells #[.int .i64 x.st.1, .int .i64 x.st.2, .int .i64 x.seq, .int .i64 x.kind, .int .i64 x.node.1, .int .i64 x.node.2, .bool x.dir, .int .i64 x.par.1, .int .i64 x.par.2, .string (bs x.nm), .string (bs x.mf)] 31) from hw1)
  have HQ := Lib.hid hq1
  have HD1 := Lib.hid hD1
  have HSh := Lib.hid hsh
  have HOp := Lib.hid hop
  obtain ⟨o0, o1, o2, o3, o4, o5, o6, o7, o8, o9, o10⟩ := blk11 hD1.b1
  clear hD1 hw1 hq1 hsh hop
  unfold ov sv at *
  obtain ⟨ys, hys⟩ : ∃ ys, ys = doN xs x := ⟨_, rfl⟩
  rw [← hys]
  have HX := Lib.hid hx
  clear hx
  rcases firstI_cases (isId x.node) xs with ⟨k, hk, hfk, hp⟩ | ⟨hfk, hall⟩
  · rw [hfk] at HP
    rw [doN_at hk hfk] at hys
    have hk0 : decide ((k : Int) < 0) = false := decide_eq_false (by omega)
    have hk1 : decide ((k : Int) ≥ 0) = true := decide_eq_true (by omega)
    have hkn : (k : Int) < (n : Int) := by omega
    by_cases h1 : x.kind = 1
    · clear hwhen
      have e1 : (x.kind == 1) = true := by rw [h1]; rfl
      rw [if_pos h1] at hys
      have HY := Lib.hid hys
      clear hys h1 hfk hp
      go_enter Try.func44, Try.ntmps44
      go_upto_region 1 with (fail)
      rw [← HW.out, ← HQ.out]
      go_wp2_with fail
      refine HP.out.mono ?_
      rintro e w2 ⟨rfl, hb2⟩
      have HD2 := Lib.hid (HD1.out.after hb2)
      obtain ⟨o0, o1, o2, o3, o4, o5, o6, o7, o8, o9, o10⟩ := blk11 HD2.out.b1
      clear hb2
      go_wp2_with fail
      go_ret
      rw [HY.out]
      exact Done.same HD2.out
    · exfalso
      rcases hwhen with h | h
      · rw [hfk] at h; omega
      · exact h1 h
  · rw [hfk] at HP
    rw [doN_no hfk] at hys
    have hk0 : decide ((-1 : Int) < 0) = true := by decide
    have hk1 : decide ((-1 : Int) ≥ 0) = false := by decide
    by_cases h1 : x.kind = 1
    · clear hwhen
      have e1 : (x.kind == 1) = true := by rw [h1]; rfl
      rw [if_pos h1] at hys
      have HY := Lib.hid hys
      clear hys h1 hfk hall
      go_enter Try.func44, Try.ntmps44
      go_upto_region 1 with (fail)
      rw [← HW.out, ← HQ.out]
      go_wp2_with fail
      refine HP.out.mono ?_
      rintro e w2 ⟨rfl, hb2⟩
      have HD2 := Lib.hid (HD1.out.after hb2)
      clear o0 o1 o2 o3 o4 o5 o6 o7 o8 o9 o10
      obtain ⟨o0, o1, o2, o3, o4, o5, o6, o7, o8, o9, o10⟩ := blk11 HD2.out.b1
      clear hb2
      go_upto_region 6 with (fail)
      obtain ⟨y0, hy0⟩ : ∃ y0 : Nd, y0 = ⟨x.node, x.dir, x.par, x.nm, x.mf⟩ := ⟨_, rfl⟩
      have hD3 := HD2.out.alloc (.cells (nc y0).toArray 38)
      have hB3 := Blk.new w2 38 (nc y0).toArray
      have hsz := HD2.out.size
      have hne : q1 < w2.heap.size := HD2.out.b1.lt
      obtain ⟨w3, hw3⟩ : ∃ w3, w3 = w2.alloc (.cells (nc y0).toArray 38) := ⟨_, rfl⟩
      obtain ⟨q2, hq2⟩ : ∃ q2, q2 = w2.heap.size := ⟨_, rfl⟩
      rw [← hw3, ← hq2] at hB3
      rw [← hw3] at hD3
      rw [← hq2] at hsz hne
      have HNe := Lib.hid hne
      clear hne
      have hw3' : w3 = w2.alloc (.cells #[.int .i64 x.node.1, .int .i64 x.node.2, .bool x.dir, .int .i64 x.par.1, .int .i64 x.par.2, .string (bs x.nm), .string (bs x.mf)] 38) := by rw [hw3, hy0]; rfl
      rw [← hw3', ← hq2]
      have HD3 := Lib.hid hD3
      have HB3 := Lib.hid hB3
      have HSz := Lib.hid hsz
      have HY0 := Lib.hid hy0
      have HTk := Lib.hid (may_any x.par A n c xs w3 hD3.nds)
      unfold sv at HTk
      obtain ⟨o0, o1, o2, o3, o4, o5, o6, o7, o8, o9, o10⟩ := blk11 hD3.b1
      clear hD3 hB3 hsz hw3 hw3' hq2
      clear hy0
      have hoy : y0.nm.length ≤ 9223372036854775807 ∧ y0.mf.length ≤ 9223372036854775807 := by rw [HY0.out]; exact HOp.out
      have HOy := Lib.hid hoy
      clear hoy
      cases ht : takesB x.par xs with
      | true =>
        rw [ht] at HTk
        have HYt : RowKit.Hid (ys = growN xs y0) := by show ys = _; rw [HY.out, if_pos ht, HY0.out]
        clear ht HY
        go_wp2_with fail
        refine HTk.out.mono ?_
        rintro e w4 ⟨rfl, hb4⟩
        have HB4 := Lib.hid (Blk.below HB3.out hb4 HB3.out.lt)
        have HD4 := Lib.hid (HD3.out.after hb4)
        have HId := Lib.hid (show y0.id = x.node by rw [HY0.out])
        clear hb4 o0 o1 o2 o3 o4 o5 o6 o7 o8 o9 o10 HTk HY0
        go_wp2_with fail
        go_loopw [7] (fun i wr => ∃ k : Nat, k ≤ n ∧ i = .int .i64 k ∧ Below w4.heap.size w4 wr ∧ RowKit.Hid (∀ j (hj : j < xs.length), j < k → lessS x.node xs[j].id = false)) (fun i _ => n - (intOf i).toNat)
        case atStart => exact ⟨0, by omega, rfl, Below.refl _ _, Lib.hid (fun j hj h => by omega)⟩
        case round =>
          obtain ⟨k, hk, rfl, hb, hall⟩ := hrel
          have HDr := Lib.hid (HD4.out.after hb)
          obtain ⟨o0, o1, o2, o3, o4, o5, o6, o7, o8, o9, o10⟩ := blk11 HDr.out.b1
          have HBr := Lib.hid (Blk.below HB4.out hb HB4.out.lt)
          have hb0 := Lib.hid hb
          clear hb
          have hfin : atN xs x.node = k → ∀ (ys0 : List Nd), ys0 = growN xs y0 → ys0 = xs.take k ++ y0 :: xs.drop k := fun h ys0 e => by
            rw [e]; unfold growN; rw [HId.out, h]
          rcases Nat.lt_or_ge k n with hlt | hge
          · have hkl : k < xs.length := by omega
            have hki : decide ((k : Int) < (n : Int)) = true := decide_eq_true (by omega)
            obtain ⟨b, off, rfl, hbl, c0, c1, c2, c3, c4, c5, c6, m1, m2⟩ := Nds.at_ HDr.out.nds hkl
            have hki2 : (k : Int) < (n : Int) := by omega
            have hat := fun (h : lessS x.node xs[k].id = true) => atN_is hkl h hall.out
            have hnx : lessS x.node xs[k].id = false → RowKit.Hid (∀ j (hj : j < xs.length), j < k + 1 → lessS x.node xs[j].id = false) := fun h => Lib.hid (fun j hj h1 => by
              rcases Nat.lt_or_ge j k with h2 | h2
              · exact hall.out j hj h2
              · obtain rfl : j = k := by omega
                exact h)
            have hdrop := 0
            clear hall m1 m2 c2 c3 c4 c5 c6
            generalize xs[k].id = sk at *
            have HAt := Lib.hid hat
            have HNx := Lib.hid hnx
            have HFin := Lib.hid hfin
            clear hat hnx hfin hkl hdrop
            cases hls : lessS x.node sk with
            | false =>
              have HN := Lib.hid (HNx.out hls)
              have HLs := Lib.hid hls
              clear hls HAt HNx
              go_upto_region 9 with (fail)
              have l4 := fun x : After wr => x.cell o4
              have l5 := fun x : After wr => x.cell o5
              have m0 := fun x : After wr => x.cell c0
              have m1 := fun x : After wr => x.cell c1
              refine wp_region_after (by kernel_rfl) (by kernel_rfl) ?_
              repeat (go_big_quiet_step ((go_at_call 34; exact after_rless _ HLs.out)))
              refine wpQuiet_nil ?_
              clear l4 l5 m0 m1
              rintro _ ⟨x2, rfl⟩
              have HBx := Lib.hid (x2.below)
              go_wp2_with fail
              exact ⟨⟨k + 1, by omega, by go_num, (hb0.out.trans (HBx.out.mono hb0.out.size)), HN⟩, by simp [intOf]; omega⟩
            | true =>
              have HA := Lib.hid (HFin.out (HAt.out hls))
              have HLs := Lib.hid hls
              clear hls HAt HNx HFin
              go_upto_region 9 with (fail)
              have l4 := fun x : After wr => x.cell o4
              have l5 := fun x : After wr => x.cell o5
              have m0 := fun x : After wr => x.cell c0
              have m1 := fun x : After wr => x.cell c1
              refine wp_region_after (by kernel_rfl) (by kernel_rfl) ?_
              repeat (go_big_quiet_step ((go_at_call 34; exact after_rless _ HLs.out)))
              refine wpQuiet_nil ?_
              clear l4 l5 m0 m1
              rintro _ ⟨x2, rfl⟩
              have HE := Lib.hid (HDr.out.after x2.below)
              have HBe := Lib.hid (Blk.below HBr.out x2.below HBr.out.lt)
              obtain ⟨c0, c1, c2, c3, c4, c5, c6⟩ := blk7 HBe.out
              have HR0 := Lib.hid (Row.nil_ (B := x2.wd.heap.size) (w0 := x2.wd) (Below.refl _ _) (Nat.le_refl _))
              have HS0 := Lib.hid (src_nds_take HE.out.nds (show k ≤ n by omega))
              go_wp2_with (at_builtin; refine wpList_append_C _ rfl (.tmp 56) (.tmp 59) 32 32 rfl 38 i0 (.agg #[.int .i64 0, .int .i64 0, .bool false, .int .i64 0, .int .i64 0, .string ⟨#[]⟩, .string ⟨#[]⟩]) 7 Try.underlying32 HI.out HZ0.out HZ1.out rfl (by decide) x2.wd.heap.size _ 0 [] rfl HR0.out.own (.slice (some ⟨b, off, none⟩) k c) rfl k (ncs (xs.take k)) ?c1 ?c3 ?c4 ?c5 ?_)
              case c1 => exact HS0.out
              case c3 => unfold maxLen; omega
              case c4 => rw [HZ2.out]; omega
              case c5 => exact Nat.le_refl _
              intro v6 w6 ho6 hg6 hat6
              obtain ⟨A6, cp6, rfl⟩ := OwnC.isSlice ho6
              have HR6 : RowKit.Hid (Row x2.wd.heap.size x2.wd w6 (.slice A6 k cp6) (xs.take k)) := Lib.hid (HR0.out.more (ys := []) (zs := xs.take k) (m := k) (by rw [List.length_take]; omega) (by rw [show ([] : List Nd).length + k = k from Nat.zero_add _]; exact ho6) hg6)
              have HB6 := Lib.hid (Blk.below HBe.out HR6.out.below HBe.out.lt)
              clear ho6 hg6 hat6 HR0 HS0 c0 c1 c2 c3 c4 c5 c6
              obtain ⟨c0, c1, c2, c3, c4, c5, c6⟩ := blk7 HB6.out
              have HR7 := Lib.hid (HR6.out.alloc (.cells (nc y0).toArray 38))
              have HS7 := Lib.hid (src_nd_new w6 y0 1)
              have hl6 : (xs.take k).length = k := by rw [List.length_take]; omega
              go_wp2_with (at_builtin; refine wpList_append_C _ rfl (.tmp 61) (.tmp 63) 32 32 rfl 38 i0 (.agg #[.int .i64 0, .int .i64 0, .bool false, .int .i64 0, .int .i64 0, .string ⟨#[]⟩, .string ⟨#[]⟩]) 7 Try.underlying32 HI.out HZ0.out HZ1.out rfl (by decide) x2.wd.heap.size _ (xs.take k).length (ncs (xs.take k)) rfl HR7.out.own (.slice (some ⟨w6.heap.size, 0, none⟩) 1 1) rfl 1 (ncs [y0]) ?c1 ?c3 ?c4 ?c5 ?_)
              case c1 => exact HS7.out
              case c3 => unfold maxLen; omega
              case c4 => rw [HZ2.out]; omega
              case c5 => exact HR7.out.le
              intro v8 w8 ho8 hg8 hat8
              obtain ⟨A8, cp8, rfl⟩ := OwnC.isSlice ho8
              have HR8 : RowKit.Hid (Row x2.wd.heap.size x2.wd w8 (.slice A8 (k + 1) cp8) (xs.take k ++ [y0])) := Lib.hid (HR7.out.more (zs := [y0]) (m := 1) rfl (by rw [hl6]; exact ho8) hg8)
              have HE8 := Lib.hid (HE.out.after HR8.out.below)
              have hl8 : (xs.take k ++ [y0]).length = k + 1 := by rw [List.length_append, hl6]; rfl
              clear ho8 hg8 hat8 HR7 HS7 HR6 HB6 c0 c1 c2 c3 c4 c5 c6
              have HS8 := Lib.hid (Src.nds (Nds.drop_ HE8.out.nds (Nat.le_of_lt hlt)))
              go_wp2_with (at_builtin; refine wpList_append_C _ rfl (.tmp 65) (.tmp 68) 32 32 rfl 38 i0 (.agg #[.int .i64 0, .int .i64 0, .bool false, .int .i64 0, .int .i64 0, .string ⟨#[]⟩, .string ⟨#[]⟩]) 7 Try.underlying32 HI.out HZ0.out HZ1.out rfl (by decide) x2.wd.heap.size _ (xs.take k ++ [y0]).length (ncs (xs.take k ++ [y0])) rfl HR8.out.own (.slice (some ⟨b, off + k * 7, none⟩) (n - k) (c - k)) rfl (n - k) (ncs (xs.drop k)) ?c1 ?c3 ?c4 ?c5 ?_)
              case c1 => exact HS8.out
              case c3 => unfold maxLen; omega
              case c4 => rw [HZ2.out]; omega
              case c5 => exact HR8.out.le
              intro v9 w9 ho9 hg9 hat9
              have HR9 := Lib.hid (HR8.out.more (zs := xs.drop k) (m := (n - k)) (by simp; omega) (by rw [hl8]; exact ho9) hg9)
              clear ho9 hg9 hat9 HR8 HS8 HE8
              go_wp2_with fail
              go_ret
              have HF : RowKit.Hid (ys = (xs.take k ++ [y0]) ++ xs.drop k) := Lib.hid (by rw [List.append_assoc]; exact HA.out _ HYt.out)
              rw [HF.out]
              have hsf : Short ((xs.take k ++ [y0]) ++ xs.drop k) := by rw [List.append_assoc]; exact short_insert HSh.out HOy.out k
              exact Done.own HR9.out.own hsf (HE.out.below.trans (HR9.out.below.mono HE.out.size))
          · obtain rfl : k = n := by omega
            have hki : decide ((k : Int) < (k : Int)) = false := decide_eq_false (by omega)
            have hfin2 := hfin (by rw [← hn]; exact atN_all (fun j hj => hall.out j hj (by omega)))
            have HA := Lib.hid hfin2
            clear hall hfin hfin2
            go_upto_region 9 with (fail)
            refine wp_region_after (by kernel_rfl) (by kernel_rfl) ?_
            repeat (go_big_quiet_step (fail))
            refine wpQuiet_nil ?_
            rintro _ ⟨x2, rfl⟩
            have HE := Lib.hid (HDr.out.after x2.below)
            have HBe := Lib.hid (Blk.below HBr.out x2.below HBr.out.lt)
            obtain ⟨c0, c1, c2, c3, c4, c5, c6⟩ := blk7 HBe.out
            have hdn : xs.drop k = [] := List.drop_eq_nil_of_le (by omega)
            cases A with
            | none =>
              have HR0 := Lib.hid (Row.nil_ (B := x2.wd.heap.size) (w0 := x2.wd) (Below.refl _ _) (Nat.le_refl _))
              have HS0 := Lib.hid (src_nds_take HE.out.nds (show k ≤ k by omega))
              go_wp2_with (at_builtin; refine wpList_append_C _ rfl (.tmp 56) (.tmp 59) 32 32 rfl 38 i0 (.agg #[.int .i64 0, .int .i64 0, .bool false, .int .i64 0, .int .i64 0, .string ⟨#[]⟩, .string ⟨#[]⟩]) 7 Try.underlying32 HI.out HZ0.out HZ1.out rfl (by decide) x2.wd.heap.size _ 0 [] rfl HR0.out.own (.slice none k c) rfl k (ncs (xs.take k)) ?c1 ?c3 ?c4 ?c5 ?_)
              case c1 => exact HS0.out
              case c3 => unfold maxLen; omega
              case c4 => rw [HZ2.out]; omega
              case c5 => exact Nat.le_refl _
              intro v6 w6 ho6 hg6 hat6
              obtain ⟨A6, cp6, rfl⟩ := OwnC.isSlice ho6
              have HR6 : RowKit.Hid (Row x2.wd.heap.size x2.wd w6 (.slice A6 k cp6) (xs.take k)) := Lib.hid (HR0.out.more (ys := []) (zs := xs.take k) (m := k) (by rw [List.length_take]; omega) (by rw [show ([] : List Nd).length + k = k from Nat.zero_add _]; exact ho6) hg6)
              have HB6 := Lib.hid (Blk.below HBe.out HR6.out.below HBe.out.lt)
              clear ho6 hg6 hat6 HR0 HS0 c0 c1 c2 c3 c4 c5 c6
              obtain ⟨c0, c1, c2, c3, c4, c5, c6⟩ := blk7 HB6.out
              have HR7 := Lib.hid (HR6.out.alloc (.cells (nc y0).toArray 38))
              have HS7 := Lib.hid (src_nd_new w6 y0 1)
              have hl6 : (xs.take k).length = k := by rw [List.length_take]; omega
              go_wp2_with (at_builtin; refine wpList_append_C _ rfl (.tmp 61) (.tmp 63) 32 32 rfl 38 i0 (.agg #[.int .i64 0, .int .i64 0, .bool false, .int .i64 0, .int .i64 0, .string ⟨#[]⟩, .string ⟨#[]⟩]) 7 Try.underlying32 HI.out HZ0.out HZ1.out rfl (by decide) x2.wd.heap.size _ (xs.take k).length (ncs (xs.take k)) rfl HR7.out.own (.slice (some ⟨w6.heap.size, 0, none⟩) 1 1) rfl 1 (ncs [y0]) ?c1 ?c3 ?c4 ?c5 ?_)
              case c1 => exact HS7.out
              case c3 => unfold maxLen; omega
              case c4 => rw [HZ2.out]; omega
              case c5 => exact HR7.out.le
              intro v8 w8 ho8 hg8 hat8
              obtain ⟨A8, cp8, rfl⟩ := OwnC.isSlice ho8
              have HR8 : RowKit.Hid (Row x2.wd.heap.size x2.wd w8 (.slice A8 (k + 1) cp8) (xs.take k ++ [y0])) := Lib.hid (HR7.out.more (zs := [y0]) (m := 1) rfl (by rw [hl6]; exact ho8) hg8)
              have HE8 := Lib.hid (HE.out.after HR8.out.below)
              have hl8 : (xs.take k ++ [y0]).length = k + 1 := by rw [List.length_append, hl6]; rfl
              clear ho8 hg8 hat8 HR7 HS7 HR6 HB6 c0 c1 c2 c3 c4 c5 c6
              have HS8 := Lib.hid (show Src Try.prog 7 32 (.slice none 0 (c - k)) 0 (ncs ([] : List Nd)) w8 from src_nds_none)
              go_wp2_with (at_builtin; refine wpList_append_C _ rfl (.tmp 65) (.tmp 68) 32 32 rfl 38 i0 (.agg #[.int .i64 0, .int .i64 0, .bool false, .int .i64 0, .int .i64 0, .string ⟨#[]⟩, .string ⟨#[]⟩]) 7 Try.underlying32 HI.out HZ0.out HZ1.out rfl (by decide) x2.wd.heap.size _ (xs.take k ++ [y0]).length (ncs (xs.take k ++ [y0])) rfl HR8.out.own (.slice none 0 (c - k)) rfl 0 (ncs (([] : List Nd))) ?c1 ?c3 ?c4 ?c5 ?_)
              case c1 => exact HS8.out
              case c3 => unfold maxLen; omega
              case c4 => rw [HZ2.out]; omega
              case c5 => exact HR8.out.le
              intro v9 w9 ho9 hg9 hat9
              have HR9 := Lib.hid (HR8.out.more (zs := ([] : List Nd)) (m := 0) (by simp) (by rw [hl8]; exact ho9) hg9)
              clear ho9 hg9 hat9 HR8 HS8 HE8
              go_wp2_with fail
              go_ret
              have HF : RowKit.Hid (ys = (xs.take k ++ [y0]) ++ []) := Lib.hid (by have := HA.out _ HYt.out; rw [hdn] at this; rw [List.append_assoc]; exact this)
              rw [HF.out]
              have hsf : Short ((xs.take k ++ [y0]) ++ []) := by rw [List.append_assoc]; have := short_insert HSh.out HOy.out k; rw [hdn] at this; exact this
              exact Done.own HR9.out.own hsf (HE.out.below.trans (HR9.out.below.mono HE.out.size))
            | some a =>
              by_cases hcn : k = c
              · subst hcn
                have HR0 := Lib.hid (Row.nil_ (B := x2.wd.heap.size) (w0 := x2.wd) (Below.refl _ _) (Nat.le_refl _))
                have HS0 := Lib.hid (src_nds_take HE.out.nds (show k ≤ k by omega))
                go_wp2_with (at_builtin; refine wpList_append_C _ rfl (.tmp 56) (.tmp 59) 32 32 rfl 38 i0 (.agg #[.int .i64 0, .int .i64 0, .bool false, .int .i64 0, .int .i64 0, .string ⟨#[]⟩, .string ⟨#[]⟩]) 7 Try.underlying32 HI.out HZ0.out HZ1.out rfl (by decide) x2.wd.heap.size _ 0 [] rfl HR0.out.own (.slice (some a) k k) rfl k (ncs (xs.take k)) ?c1 ?c3 ?c4 ?c5 ?_)
                case c1 => exact HS0.out
                case c3 => unfold maxLen; omega
                case c4 => rw [HZ2.out]; omega
                case c5 => exact Nat.le_refl _
                intro v6 w6 ho6 hg6 hat6
                obtain ⟨A6, cp6, rfl⟩ := OwnC.isSlice ho6
                have HR6 : RowKit.Hid (Row x2.wd.heap.size x2.wd w6 (.slice A6 k cp6) (xs.take k)) := Lib.hid (HR0.out.more (ys := []) (zs := xs.take k) (m := k) (by rw [List.length_take]; omega) (by rw [show ([] : List Nd).length + k = k from Nat.zero_add _]; exact ho6) hg6)
                have HB6 := Lib.hid (Blk.below HBe.out HR6.out.below HBe.out.lt)
                clear ho6 hg6 hat6 HR0 HS0 c0 c1 c2 c3 c4 c5 c6
                obtain ⟨c0, c1, c2, c3, c4, c5, c6⟩ := blk7 HB6.out
                have HR7 := Lib.hid (HR6.out.alloc (.cells (nc y0).toArray 38))
                have HS7 := Lib.hid (src_nd_new w6 y0 1)
                have hl6 : (xs.take k).length = k := by rw [List.length_take]; omega
                go_wp2_with (at_builtin; refine wpList_append_C _ rfl (.tmp 61) (.tmp 63) 32 32 rfl 38 i0 (.agg #[.int .i64 0, .int .i64 0, .bool false, .int .i64 0, .int .i64 0, .string ⟨#[]⟩, .string ⟨#[]⟩]) 7 Try.underlying32 HI.out HZ0.out HZ1.out rfl (by decide) x2.wd.heap.size _ (xs.take k).length (ncs (xs.take k)) rfl HR7.out.own (.slice (some ⟨w6.heap.size, 0, none⟩) 1 1) rfl 1 (ncs [y0]) ?c1 ?c3 ?c4 ?c5 ?_)
                case c1 => exact HS7.out
                case c3 => unfold maxLen; omega
                case c4 => rw [HZ2.out]; omega
                case c5 => exact HR7.out.le
                intro v8 w8 ho8 hg8 hat8
                obtain ⟨A8, cp8, rfl⟩ := OwnC.isSlice ho8
                have HR8 : RowKit.Hid (Row x2.wd.heap.size x2.wd w8 (.slice A8 (k + 1) cp8) (xs.take k ++ [y0])) := Lib.hid (HR7.out.more (zs := [y0]) (m := 1) rfl (by rw [hl6]; exact ho8) hg8)
                have HE8 := Lib.hid (HE.out.after HR8.out.below)
                have hl8 : (xs.take k ++ [y0]).length = k + 1 := by rw [List.length_append, hl6]; rfl
                clear ho8 hg8 hat8 HR7 HS7 HR6 HB6 c0 c1 c2 c3 c4 c5 c6
                have HS8 := Lib.hid (show Src Try.prog 7 32 (.slice (some a) 0 0) 0 (ncs ([] : List Nd)) w8 from src_nds_none)
                go_wp2_with (at_builtin; refine wpList_append_C _ rfl (.tmp 65) (.tmp 68) 32 32 rfl 38 i0 (.agg #[.int .i64 0, .int .i64 0, .bool false, .int .i64 0, .int .i64 0, .string ⟨#[]⟩, .string ⟨#[]⟩]) 7 Try.underlying32 HI.out HZ0.out HZ1.out rfl (by decide) x2.wd.heap.size _ (xs.take k ++ [y0]).length (ncs (xs.take k ++ [y0])) rfl HR8.out.own (.slice (some a) 0 0) rfl 0 (ncs (([] : List Nd))) ?c1 ?c3 ?c4 ?c5 ?_)
                case c1 => exact HS8.out
                case c3 => unfold maxLen; omega
                case c4 => rw [HZ2.out]; omega
                case c5 => exact HR8.out.le
                intro v9 w9 ho9 hg9 hat9
                have HR9 := Lib.hid (HR8.out.more (zs := ([] : List Nd)) (m := 0) (by simp) (by rw [hl8]; exact ho9) hg9)
                clear ho9 hg9 hat9 HR8 HS8 HE8
                go_wp2_with fail
                go_ret
                have HF : RowKit.Hid (ys = (xs.take k ++ [y0]) ++ []) := Lib.hid (by have := HA.out _ HYt.out; rw [hdn] at this; rw [List.append_assoc]; exact this)
                rw [HF.out]
                have hsf : Short ((xs.take k ++ [y0]) ++ []) := by rw [List.append_assoc]; have := short_insert HSh.out HOy.out k; rw [hdn] at this; exact this
                exact Done.own HR9.out.own hsf (HE.out.below.trans (HR9.out.below.mono HE.out.size))
              · have hcn1 : ¬ c = k := fun e => hcn e.symm
                have HR0 := Lib.hid (Row.nil_ (B := x2.wd.heap.size) (w0 := x2.wd) (Below.refl _ _) (Nat.le_refl _))
                have HS0 := Lib.hid (src_nds_take HE.out.nds (show k ≤ k by omega))
                go_wp2_with (at_builtin; refine wpList_append_C _ rfl (.tmp 56) (.tmp 59) 32 32 rfl 38 i0 (.agg #[.int .i64 0, .int .i64 0, .bool false, .int .i64 0, .int .i64 0, .string ⟨#[]⟩, .string ⟨#[]⟩]) 7 Try.underlying32 HI.out HZ0.out HZ1.out rfl (by decide) x2.wd.heap.size _ 0 [] rfl HR0.out.own (.slice (some a) k c) rfl k (ncs (xs.take k)) ?c1 ?c3 ?c4 ?c5 ?_)
                case c1 => exact HS0.out
                case c3 => unfold maxLen; omega
                case c4 => rw [HZ2.out]; omega
                case c5 => exact Nat.le_refl _
                intro v6 w6 ho6 hg6 hat6
                obtain ⟨A6, cp6, rfl⟩ := OwnC.isSlice ho6
                have HR6 : RowKit.Hid (Row x2.wd.heap.size x2.wd w6 (.slice A6 k cp6) (xs.take k)) := Lib.hid (HR0.out.more (ys := []) (zs := xs.take k) (m := k) (by rw [List.length_take]; omega) (by rw [show ([] : List Nd).length + k = k from Nat.zero_add _]; exact ho6) hg6)
                have HB6 := Lib.hid (Blk.below HBe.out HR6.out.below HBe.out.lt)
                clear ho6 hg6 hat6 HR0 HS0 c0 c1 c2 c3 c4 c5 c6
                obtain ⟨c0, c1, c2, c3, c4, c5, c6⟩ := blk7 HB6.out
                have HR7 := Lib.hid (HR6.out.alloc (.cells (nc y0).toArray 38))
                have HS7 := Lib.hid (src_nd_new w6 y0 1)
                have hl6 : (xs.take k).length = k := by rw [List.length_take]; omega
                go_wp2_with (at_builtin; refine wpList_append_C _ rfl (.tmp 61) (.tmp 63) 32 32 rfl 38 i0 (.agg #[.int .i64 0, .int .i64 0, .bool false, .int .i64 0, .int .i64 0, .string ⟨#[]⟩, .string ⟨#[]⟩]) 7 Try.underlying32 HI.out HZ0.out HZ1.out rfl (by decide) x2.wd.heap.size _ (xs.take k).length (ncs (xs.take k)) rfl HR7.out.own (.slice (some ⟨w6.heap.size, 0, none⟩) 1 1) rfl 1 (ncs [y0]) ?c1 ?c3 ?c4 ?c5 ?_)
                case c1 => exact HS7.out
                case c3 => unfold maxLen; omega
                case c4 => rw [HZ2.out]; omega
                case c5 => exact HR7.out.le
                intro v8 w8 ho8 hg8 hat8
                obtain ⟨A8, cp8, rfl⟩ := OwnC.isSlice ho8
                have HR8 : RowKit.Hid (Row x2.wd.heap.size x2.wd w8 (.slice A8 (k + 1) cp8) (xs.take k ++ [y0])) := Lib.hid (HR7.out.more (zs := [y0]) (m := 1) rfl (by rw [hl6]; exact ho8) hg8)
                have HE8 := Lib.hid (HE.out.after HR8.out.below)
                have hl8 : (xs.take k ++ [y0]).length = k + 1 := by rw [List.length_append, hl6]; rfl
                clear ho8 hg8 hat8 HR7 HS7 HR6 HB6 c0 c1 c2 c3 c4 c5 c6
                have HS8 := Lib.hid (show Src Try.prog 7 32 (.slice (some (a.add (k * 7))) 0 (c - k)) 0 (ncs ([] : List Nd)) w8 from src_nds_none)
                go_wp2_with (at_builtin; refine wpList_append_C _ rfl (.tmp 65) (.tmp 68) 32 32 rfl 38 i0 (.agg #[.int .i64 0, .int .i64 0, .bool false, .int .i64 0, .int .i64 0, .string ⟨#[]⟩, .string ⟨#[]⟩]) 7 Try.underlying32 HI.out HZ0.out HZ1.out rfl (by decide) x2.wd.heap.size _ (xs.take k ++ [y0]).length (ncs (xs.take k ++ [y0])) rfl HR8.out.own (.slice (some (a.add (k * 7))) 0 (c - k)) rfl 0 (ncs (([] : List Nd))) ?c1 ?c3 ?c4 ?c5 ?_)
                case c1 => exact HS8.out
                case c3 => unfold maxLen; omega
                case c4 => rw [HZ2.out]; omega
                case c5 => exact HR8.out.le
                intro v9 w9 ho9 hg9 hat9
                have HR9 := Lib.hid (HR8.out.more (zs := ([] : List Nd)) (m := 0) (by simp) (by rw [hl8]; exact ho9) hg9)
                clear ho9 hg9 hat9 HR8 HS8 HE8
                go_wp2_with fail
                go_ret
                have HF : RowKit.Hid (ys = (xs.take k ++ [y0]) ++ []) := Lib.hid (by have := HA.out _ HYt.out; rw [hdn] at this; rw [List.append_assoc]; exact this)
                rw [HF.out]
                have hsf : Short ((xs.take k ++ [y0]) ++ []) := by rw [List.append_assoc]; have := short_insert HSh.out HOy.out k; rw [hdn] at this; exact this
                exact Done.own HR9.out.own hsf (HE.out.below.trans (HR9.out.below.mono HE.out.size))
      | false =>
        rw [ht] at HTk
        obtain ⟨z, hz⟩ : ∃ z : Nd, z = { y0 with par := (0, 1) } := ⟨_, rfl⟩
        have HYt : RowKit.Hid (ys = growN xs z) := by show ys = _; rw [HY.out, if_neg (by rw [ht]; decide), hz, HY0.out]
        have HId := Lib.hid (show z.id = x.node by rw [hz, HY0.out])
        have HZe := Lib.hid hz
        have HOy := Lib.hid (show z.nm.length ≤ 9223372036854775807 ∧ z.mf.length ≤ 9223372036854775807 by rw [hz]; exact HOy.out)
        clear ht HY hz
        go_wp2_with fail
        refine HTk.out.mono ?_
        rintro e w4 ⟨rfl, hb4⟩
        have HB4 := Lib.hid (Blk.below HB3.out hb4 HB3.out.lt)
        have HD4 := Lib.hid (HD3.out.after hb4)
        clear hb4 o0 o1 o2 o3 o4 o5 o6 o7 o8 o9 o10 HTk
        go_wp2_with fail
        refine (rtrash_st w4).mono ?_
        rintro e w6 ⟨rfl, hb6⟩
        have hB6 := Blk.below HB4.out hb6 HB4.out.lt
        have hD6 := HD4.out.after hb6
        have HB6 := Lib.hid hB6
        have HD6 := Lib.hid hD6
        obtain ⟨c0, c1, c2, c3, c4, c5, c6⟩ := blk7 hB6
        obtain ⟨f0, f1, f2, f3, f4, f5, f6⟩ := blkf7 hB6
        clear hb6 hB6 hD6
        go_upto_region 8 with (fail)
        have hB7 : Blk ((w6.setCell ⟨q2, 3, none⟩ (.int .i64 0)).setCell ⟨q2, 4, none⟩ (.int .i64 1)) q2 38 (nc z).toArray := by
          have := Blk.set_ (Blk.set_ HB6.out 3 (.int .i64 0)) 4 (.int .i64 1)
          rw [HZe.out]
          simpa [nc] using this
        have hb7 : Below w.heap.size w ((w6.setCell ⟨q2, 3, none⟩ (.int .i64 0)).setCell ⟨q2, 4, none⟩ (.int .i64 1)) :=
          (HD6.out.below.setCell (p := ⟨q2, 3, none⟩) HSz.out _).setCell (p := ⟨q2, 4, none⟩) HSz.out _
        have hq7 := Blk.far (Blk.far HD6.out.b1 (p := ⟨q2, 3, none⟩) (Nat.ne_of_lt HNe.out) (.int .i64 0)) (p := ⟨q2, 4, none⟩) (Nat.ne_of_lt HNe.out) (.int .i64 1)
        obtain ⟨w7, hw7⟩ : ∃ w7, w7 = (w6.setCell ⟨q2, 3, none⟩ (.int .i64 0)).setCell ⟨q2, 4, none⟩ (.int .i64 1) := ⟨_, rfl⟩
        rw [← hw7] at hB7 hb7 hq7
        rw [← hw7]
        have HD7 := Lib.hid (show DoR w.heap.size q1 w w7 x A n c xs from ⟨hq7, HX.out.below hb7, hb7, HD6.out.h1⟩)
        have HB7 := Lib.hid hB7
        clear hw7 hb7 hq7 hB7 c0 c1 c2 c3 c4 c5 c6 f0 f1 f2 f3 f4 f5 f6
        go_wp2_with fail
        go_loopw [7] (fun i wr => ∃ k : Nat, k ≤ n ∧ i = .int .i64 k ∧ Below w7.heap.size w7 wr ∧ RowKit.Hid (∀ j (hj : j < xs.length), j < k → lessS x.node xs[j].id = false)) (fun i _ => n - (intOf i).toNat)
        case atStart => exact ⟨0, by omega, rfl, Below.refl _ _, Lib.hid (fun j hj h => by omega)⟩
        case round =>
          obtain ⟨k, hk, rfl, hb, hall⟩ := hrel
          have HDr := Lib.hid (HD7.out.after hb)
          obtain ⟨o0, o1, o2, o3, o4, o5, o6, o7, o8, o9, o10⟩ := blk11 HDr.out.b1
          have HBr := Lib.hid (Blk.below HB7.out hb HB7.out.lt)
          have hb0 := Lib.hid hb
          clear hb
          have hfin : atN xs x.node = k → ∀ (ys0 : List Nd), ys0 = growN xs z → ys0 = xs.take k ++ z :: xs.drop k := fun h ys0 e => by
            rw [e]; unfold growN; rw [HId.out, h]
          rcases Nat.lt_or_ge k n with hlt | hge
          · have hkl : k < xs.length := by omega
            have hki : decide ((k : Int) < (n : Int)) = true := decide_eq_true (by omega)
            obtain ⟨b, off, rfl, hbl, c0, c1, c2, c3, c4, c5, c6, m1, m2⟩ := Nds.at_ HDr.out.nds hkl
            have hki2 : (k : Int) < (n : Int) := by omega
            have hat := fun (h : lessS x.node xs[k].id = true) => atN_is hkl h hall.out
            have hnx : lessS x.node xs[k].id = false → RowKit.Hid (∀ j (hj : j < xs.length), j < k + 1 → lessS x.node xs[j].id = false) := fun h => Lib.hid (fun j hj h1 => by
              rcases Nat.lt_or_ge j k with h2 | h2
              · exact hall.out j hj h2
              · obtain rfl : j = k := by omega
                exact h)
            have hdrop := 0
            clear hall m1 m2 c2 c3 c4 c5 c6
            generalize xs[k].id = sk at *
            have HAt := Lib.hid hat
            have HNx := Lib.hid hnx
            have HFin := Lib.hid hfin
            clear hat hnx hfin hkl hdrop
            cases hls : lessS x.node sk with
            | false =>
              have HN := Lib.hid (HNx.out hls)
              have HLs := Lib.hid hls
              clear hls HAt HNx
              go_upto_region 9 with (fail)
              have l4 := fun x : After wr => x.cell o4
              have l5 := fun x : After wr => x.cell o5
              have m0 := fun x : After wr => x.cell c0
              have m1 := fun x : After wr => x.cell c1
              refine wp_region_after (by kernel_rfl) (by kernel_rfl) ?_
              repeat (go_big_quiet_step ((go_at_call 34; exact after_rless _ HLs.out)))
              refine wpQuiet_nil ?_
              clear l4 l5 m0 m1
              rintro _ ⟨x2, rfl⟩
              have HBx := Lib.hid (x2.below)
              go_wp2_with fail
              exact ⟨⟨k + 1, by omega, by go_num, (hb0.out.trans (HBx.out.mono hb0.out.size)), HN⟩, by simp [intOf]; omega⟩
            | true =>
              have HA := Lib.hid (HFin.out (HAt.out hls))
              have HLs := Lib.hid hls
              clear hls HAt HNx HFin
              go_upto_region 9 with (fail)
              have l4 := fun x : After wr => x.cell o4
              have l5 := fun x : After wr => x.cell o5
              have m0 := fun x : After wr => x.cell c0
              have m1 := fun x : After wr => x.cell c1
              refine wp_region_after (by kernel_rfl) (by kernel_rfl) ?_
              repeat (go_big_quiet_step ((go_at_call 34; exact after_rless _ HLs.out)))
              refine wpQuiet_nil ?_
              clear l4 l5 m0 m1
              rintro _ ⟨x2, rfl⟩
              have HE := Lib.hid (HDr.out.after x2.below)
              have HBe := Lib.hid (Blk.below HBr.out x2.below HBr.out.lt)
              obtain ⟨c0, c1, c2, c3, c4, c5, c6⟩ := blk7 HBe.out
              have HR0 := Lib.hid (Row.nil_ (B := x2.wd.heap.size) (w0 := x2.wd) (Below.refl _ _) (Nat.le_refl _))
              have HS0 := Lib.hid (src_nds_take HE.out.nds (show k ≤ n by omega))
              go_wp2_with (at_builtin; refine wpList_append_C _ rfl (.tmp 56) (.tmp 59) 32 32 rfl 38 i0 (.agg #[.int .i64 0, .int .i64 0, .bool false, .int .i64 0, .int .i64 0, .string ⟨#[]⟩, .string ⟨#[]⟩]) 7 Try.underlying32 HI.out HZ0.out HZ1.out rfl (by decide) x2.wd.heap.size _ 0 [] rfl HR0.out.own (.slice (some ⟨b, off, none⟩) k c) rfl k (ncs (xs.take k)) ?c1 ?c3 ?c4 ?c5 ?_)
              case c1 => exact HS0.out
              case c3 => unfold maxLen; omega
              case c4 => rw [HZ2.out]; omega
              case c5 => exact Nat.le_refl _
              intro v6 w6 ho6 hg6 hat6
              obtain ⟨A6, cp6, rfl⟩ := OwnC.isSlice ho6
              have HR6 : RowKit.Hid (Row x2.wd.heap.size x2.wd w6 (.slice A6 k cp6) (xs.take k)) := Lib.hid (HR0.out.more (ys := []) (zs := xs.take k) (m := k) (by rw [List.length_take]; omega) (by rw [show ([] : List Nd).length + k = k from Nat.zero_add _]; exact ho6) hg6)
              have HB6 := Lib.hid (Blk.below HBe.out HR6.out.below HBe.out.lt)
              clear ho6 hg6 hat6 HR0 HS0 c0 c1 c2 c3 c4 c5 c6
              obtain ⟨c0, c1, c2, c3, c4, c5, c6⟩ := blk7 HB6.out
              have HR7 := Lib.hid (HR6.out.alloc (.cells (nc z).toArray 38))
              have HS7 := Lib.hid (src_nd_new w6 z 1)
              have hl6 : (xs.take k).length = k := by rw [List.length_take]; omega
              go_wp2_with (at_builtin; refine wpList_append_C _ rfl (.tmp 61) (.tmp 63) 32 32 rfl 38 i0 (.agg #[.int .i64 0, .int .i64 0, .bool false, .int .i64 0, .int .i64 0, .string ⟨#[]⟩, .string ⟨#[]⟩]) 7 Try.underlying32 HI.out HZ0.out HZ1.out rfl (by decide) x2.wd.heap.size _ (xs.take k).length (ncs (xs.take k)) rfl HR7.out.own (.slice (some ⟨w6.heap.size, 0, none⟩) 1 1) rfl 1 (ncs [z]) ?c1 ?c3 ?c4 ?c5 ?_)
              case c1 => exact HS7.out
              case c3 => unfold maxLen; omega
              case c4 => rw [HZ2.out]; omega
              case c5 => exact HR7.out.le
              intro v8 w8 ho8 hg8 hat8
              obtain ⟨A8, cp8, rfl⟩ := OwnC.isSlice ho8
              have HR8 : RowKit.Hid (Row x2.wd.heap.size x2.wd w8 (.slice A8 (k + 1) cp8) (xs.take k ++ [z])) := Lib.hid (HR7.out.more (zs := [z]) (m := 1) rfl (by rw [hl6]; exact ho8) hg8)
              have HE8 := Lib.hid (HE.out.after HR8.out.below)
              have hl8 : (xs.take k ++ [z]).length = k + 1 := by rw [List.length_append, hl6]; rfl
              clear ho8 hg8 hat8 HR7 HS7 HR6 HB6 c0 c1 c2 c3 c4 c5 c6
              have HS8 := Lib.hid (Src.nds (Nds.drop_ HE8.out.nds (Nat.le_of_lt hlt)))
              go_wp2_with (at_builtin; refine wpList_append_C _ rfl (.tmp 65) (.tmp 68) 32 32 rfl 38 i0 (.agg #[.int .i64 0, .int .i64 0, .bool false, .int .i64 0, .int .i64 0, .string ⟨#[]⟩, .string ⟨#[]⟩]) 7 Try.underlying32 HI.out HZ0.out HZ1.out rfl (by decide) x2.wd.heap.size _ (xs.take k ++ [z]).length (ncs (xs.take k ++ [z])) rfl HR8.out.own (.slice (some ⟨b, off + k * 7, none⟩) (n - k) (c - k)) rfl (n - k) (ncs (xs.drop k)) ?c1 ?c3 ?c4 ?c5 ?_)
              case c1 => exact HS8.out
              case c3 => unfold maxLen; omega
              case c4 => rw [HZ2.out]; omega
              case c5 => exact HR8.out.le
              intro v9 w9 ho9 hg9 hat9
              have HR9 := Lib.hid (HR8.out.more (zs := xs.drop k) (m := (n - k)) (by simp; omega) (by rw [hl8]; exact ho9) hg9)
              clear ho9 hg9 hat9 HR8 HS8 HE8
              go_wp2_with fail
              go_ret
              have HF : RowKit.Hid (ys = (xs.take k ++ [z]) ++ xs.drop k) := Lib.hid (by rw [List.append_assoc]; exact HA.out _ HYt.out)
              rw [HF.out]
              have hsf : Short ((xs.take k ++ [z]) ++ xs.drop k) := by rw [List.append_assoc]; exact short_insert HSh.out HOy.out k
              exact Done.own HR9.out.own hsf (HE.out.below.trans (HR9.out.below.mono HE.out.size))
          · obtain rfl : k = n := by omega
            have hki : decide ((k : Int) < (k : Int)) = false := decide_eq_false (by omega)
            have hfin2 := hfin (by rw [← hn]; exact atN_all (fun j hj => hall.out j hj (by omega)))
            have HA := Lib.hid hfin2
            clear hall hfin hfin2
            go_upto_region 9 with (fail)
            refine wp_region_after (by kernel_rfl) (by kernel_rfl) ?_
            repeat (go_big_quiet_step (fail))
            refine wpQuiet_nil ?_
            rintro _ ⟨x2, rfl⟩
            have HE := Lib.hid (HDr.out.after x2.below)
            have HBe := Lib.hid (Blk.below HBr.out x2.below HBr.out.lt)
            obtain ⟨c0, c1, c2, c3, c4, c5, c6⟩ := blk7 HBe.out
            have hdn : xs.drop k = [] := List.drop_eq_nil_of_le (by omega)
            cases A with
            | none =>
              have HR0 := Lib.hid (Row.nil_ (B := x2.wd.heap.size) (w0 := x2.wd) (Below.refl _ _) (Nat.le_refl _))
              have HS0 := Lib.hid (src_nds_take HE.out.nds (show k ≤ k by omega))
              go_wp2_with (at_builtin; refine wpList_append_C _ rfl (.tmp 56) (.tmp 59) 32 32 rfl 38 i0 (.agg #[.int .i64 0, .int .i64 0, .bool false, .int .i64 0, .int .i64 0, .string ⟨#[]⟩, .string ⟨#[]⟩]) 7 Try.underlying32 HI.out HZ0.out HZ1.out rfl (by decide) x2.wd.heap.size _ 0 [] rfl HR0.out.own (.slice none k c) rfl k (ncs (xs.take k)) ?c1 ?c3 ?c4 ?c5 ?_)
              case c1 => exact HS0.out
              case c3 => unfold maxLen; omega
              case c4 => rw [HZ2.out]; omega
              case c5 => exact Nat.le_refl _
              intro v6 w6 ho6 hg6 hat6
              obtain ⟨A6, cp6, rfl⟩ := OwnC.isSlice ho6
              have HR6 : RowKit.Hid (Row x2.wd.heap.size x2.wd w6 (.slice A6 k cp6) (xs.take k)) := Lib.hid (HR0.out.more (ys := []) (zs := xs.take k) (m := k) (by rw [List.length_take]; omega) (by rw [show ([] : List Nd).length + k = k from Nat.zero_add _]; exact ho6) hg6)
              have HB6 := Lib.hid (Blk.below HBe.out HR6.out.below HBe.out.lt)
              clear ho6 hg6 hat6 HR0 HS0 c0 c1 c2 c3 c4 c5 c6
              obtain ⟨c0, c1, c2, c3, c4, c5, c6⟩ := blk7 HB6.out
              have HR7 := Lib.hid (HR6.out.alloc (.cells (nc z).toArray 38))
              have HS7 := Lib.hid (src_nd_new w6 z 1)
              have hl6 : (xs.take k).length = k := by rw [List.length_take]; omega
              go_wp2_with (at_builtin; refine wpList_append_C _ rfl (.tmp 61) (.tmp 63) 32 32 rfl 38 i0 (.agg #[.int .i64 0, .int .i64 0, .bool false, .int .i64 0, .int .i64 0, .string ⟨#[]⟩, .string ⟨#[]⟩]) 7 Try.underlying32 HI.out HZ0.out HZ1.out rfl (by decide) x2.wd.heap.size _ (xs.take k).length (ncs (xs.take k)) rfl HR7.out.own (.slice (some ⟨w6.heap.size, 0, none⟩) 1 1) rfl 1 (ncs [z]) ?c1 ?c3 ?c4 ?c5 ?_)
              case c1 => exact HS7.out
              case c3 => unfold maxLen; omega
              case c4 => rw [HZ2.out]; omega
              case c5 => exact HR7.out.le
              intro v8 w8 ho8 hg8 hat8
              obtain ⟨A8, cp8, rfl⟩ := OwnC.isSlice ho8
              have HR8 : RowKit.Hid (Row x2.wd.heap.size x2.wd w8 (.slice A8 (k + 1) cp8) (xs.take k ++ [z])) := Lib.hid (HR7.out.more (zs := [z]) (m := 1) rfl (by rw [hl6]; exact ho8) hg8)
              have HE8 := Lib.hid (HE.out.after HR8.out.below)
              have hl8 : (xs.take k ++ [z]).length = k + 1 := by rw [List.length_append, hl6]; rfl
              clear ho8 hg8 hat8 HR7 HS7 HR6 HB6 c0 c1 c2 c3 c4 c5 c6
              have HS8 := Lib.hid (show Src Try.prog 7 32 (.slice none 0 (c - k)) 0 (ncs ([] : List Nd)) w8 from src_nds_none)
              go_wp2_with (at_builtin; refine wpList_append_C _ rfl (.tmp 65) (.tmp 68) 32 32 rfl 38 i0 (.agg #[.int .i64 0, .int .i64 0, .bool false, .int .i64 0, .int .i64 0, .string ⟨#[]⟩, .string ⟨#[]⟩]) 7 Try.underlying32 HI.out HZ0.out HZ1.out rfl (by decide) x2.wd.heap.size _ (xs.take k ++ [z]).length (ncs (xs.take k ++ [z])) rfl HR8.out.own (.slice none 0 (c - k)) rfl 0 (ncs (([] : List Nd))) ?c1 ?c3 ?c4 ?c5 ?_)
              case c1 => exact HS8.out
              case c3 => unfold maxLen; omega
              case c4 => rw [HZ2.out]; omega
              case c5 => exact HR8.out.le
              intro v9 w9 ho9 hg9 hat9
              have HR9 := Lib.hid (HR8.out.more (zs := ([] : List Nd)) (m := 0) (by simp) (by rw [hl8]; exact ho9) hg9)
              clear ho9 hg9 hat9 HR8 HS8 HE8
              go_wp2_with fail
              go_ret
              have HF : RowKit.Hid (ys = (xs.take k ++ [z]) ++ []) := Lib.hid (by have := HA.out _ HYt.out; rw [hdn] at this; rw [List.append_assoc]; exact this)
              rw [HF.out]
              have hsf : Short ((xs.take k ++ [z]) ++ []) := by rw [List.append_assoc]; have := short_insert HSh.out HOy.out k; rw [hdn] at this; exact this
              exact Done.own HR9.out.own hsf (HE.out.below.trans (HR9.out.below.mono HE.out.size))
            | some a =>
              by_cases hcn : k = c
              · subst hcn
                have HR0 := Lib.hid (Row.nil_ (B := x2.wd.heap.size) (w0 := x2.wd) (Below.refl _ _) (Nat.le_refl _))
                have HS0 := Lib.hid (src_nds_take HE.out.nds (show k ≤ k by omega))
                go_wp2_with (at_builtin; refine wpList_append_C _ rfl (.tmp 56) (.tmp 59) 32 32 rfl 38 i0 (.agg #[.int .i64 0, .int .i64 0, .bool false, .int .i64 0, .int .i64 0, .string ⟨#[]⟩, .string ⟨#[]⟩]) 7 Try.underlying32 HI.out HZ0.out HZ1.out rfl (by decide) x2.wd.heap.size _ 0 [] rfl HR0.out.own (.slice (some a) k k) rfl k (ncs (xs.take k)) ?c1 ?c3 ?c4 ?c5 ?_)
                case c1 => exact HS0.out
                case c3 => unfold maxLen; omega
                case c4 => rw [HZ2.out]; omega
                case c5 => exact Nat.le_refl _
                intro v6 w6 ho6 hg6 hat6
                obtain ⟨A6, cp6, rfl⟩ := OwnC.isSlice ho6
                have HR6 : RowKit.Hid (Row x2.wd.heap.size x2.wd w6 (.slice A6 k cp6) (xs.take k)) := Lib.hid (HR0.out.more (ys := []) (zs := xs.take k) (m := k) (by rw [List.length_take]; omega) (by rw [show ([] : List Nd).length + k = k from Nat.zero_add _]; exact ho6) hg6)
                have HB6 := Lib.hid (Blk.below HBe.out HR6.out.below HBe.out.lt)
                clear ho6 hg6 hat6 HR0 HS0 c0 c1 c2 c3 c4 c5 c6
                obtain ⟨c0, c1, c2, c3, c4, c5, c6⟩ := blk7 HB6.out
                have HR7 := Lib.hid (HR6.out.alloc (.cells (nc z).toArray 38))
                have HS7 := Lib.hid (src_nd_new w6 z 1)
                have hl6 : (xs.take k).length = k := by rw [List.length_take]; omega
                go_wp2_with (at_builtin; refine wpList_append_C _ rfl (.tmp 61) (.tmp 63) 32 32 rfl 38 i0 (.agg #[.int .i64 0, .int .i64 0, .bool false, .int .i64 0, .int .i64 0, .string ⟨#[]⟩, .string ⟨#[]⟩]) 7 Try.underlying32 HI.out HZ0.out HZ1.out rfl (by decide) x2.wd.heap.size _ (xs.take k).length (ncs (xs.take k)) rfl HR7.out.own (.slice (some ⟨w6.heap.size, 0, none⟩) 1 1) rfl 1 (ncs [z]) ?c1 ?c3 ?c4 ?c5 ?_)
                case c1 => exact HS7.out
                case c3 => unfold maxLen; omega
                case c4 => rw [HZ2.out]; omega
                case c5 => exact HR7.out.le
                intro v8 w8 ho8 hg8 hat8
                obtain ⟨A8, cp8, rfl⟩ := OwnC.isSlice ho8
                have HR8 : RowKit.Hid (Row x2.wd.heap.size x2.wd w8 (.slice A8 (k + 1) cp8) (xs.take k ++ [z])) := Lib.hid (HR7.out.more (zs := [z]) (m := 1) rfl (by rw [hl6]; exact ho8) hg8)
                have HE8 := Lib.hid (HE.out.after HR8.out.below)
                have hl8 : (xs.take k ++ [z]).length = k + 1 := by rw [List.length_append, hl6]; rfl
                clear ho8 hg8 hat8 HR7 HS7 HR6 HB6 c0 c1 c2 c3 c4 c5 c6
                have HS8 := Lib.hid (show Src Try.prog 7 32 (.slice (some a) 0 0) 0 (ncs ([] : List Nd)) w8 from src_nds_none)
                go_wp2_with (at_builtin; refine wpList_append_C _ rfl (.tmp 65) (.tmp 68) 32 32 rfl 38 i0 (.agg #[.int .i64 0, .int .i64 0, .bool false, .int .i64 0, .int .i64 0, .string ⟨#[]⟩, .string ⟨#[]⟩]) 7 Try.underlying32 HI.out HZ0.out HZ1.out rfl (by decide) x2.wd.heap.size _ (xs.take k ++ [z]).length (ncs (xs.take k ++ [z])) rfl HR8.out.own (.slice (some a) 0 0) rfl 0 (ncs (([] : List Nd))) ?c1 ?c3 ?c4 ?c5 ?_)
                case c1 => exact HS8.out
                case c3 => unfold maxLen; omega
                case c4 => rw [HZ2.out]; omega
                case c5 => exact HR8.out.le
                intro v9 w9 ho9 hg9 hat9
                have HR9 := Lib.hid (HR8.out.more (zs := ([] : List Nd)) (m := 0) (by simp) (by rw [hl8]; exact ho9) hg9)
                clear ho9 hg9 hat9 HR8 HS8 HE8
                go_wp2_with fail
                go_ret
                have HF : RowKit.Hid (ys = (xs.take k ++ [z]) ++ []) := Lib.hid (by have := HA.out _ HYt.out; rw [hdn] at this; rw [List.append_assoc]; exact this)
                rw [HF.out]
                have hsf : Short ((xs.take k ++ [z]) ++ []) := by rw [List.append_assoc]; have := short_insert HSh.out HOy.out k; rw [hdn] at this; exact this
                exact Done.own HR9.out.own hsf (HE.out.below.trans (HR9.out.below.mono HE.out.size))
              · have hcn1 : ¬ c = k := fun e => hcn e.symm
                have HR0 := Lib.hid (Row.nil_ (B := x2.wd.heap.size) (w0 := x2.wd) (Below.refl _ _) (Nat.le_refl _))
                have HS0 := Lib.hid (src_nds_take HE.out.nds (show k ≤ k by omega))
                go_wp2_with (at_builtin; refine wpList_append_C _ rfl (.tmp 56) (.tmp 59) 32 32 rfl 38 i0 (.agg #[.int .i64 0, .int .i64 0, .bool false, .int .i64 0, .int .i64 0, .string ⟨#[]⟩, .string ⟨#[]⟩]) 7 Try.underlying32 HI.out HZ0.out HZ1.out rfl (by decide) x2.wd.heap.size _ 0 [] rfl HR0.out.own (.slice (some a) k c) rfl k (ncs (xs.take k)) ?c1 ?c3 ?c4 ?c5 ?_)
                case c1 => exact HS0.out
                case c3 => unfold maxLen; omega
                case c4 => rw [HZ2.out]; omega
                case c5 => exact Nat.le_refl _
                intro v6 w6 ho6 hg6 hat6
                obtain ⟨A6, cp6, rfl⟩ := OwnC.isSlice ho6
                have HR6 : RowKit.Hid (Row x2.wd.heap.size x2.wd w6 (.slice A6 k cp6) (xs.take k)) := Lib.hid (HR0.out.more (ys := []) (zs := xs.take k) (m := k) (by rw [List.length_take]; omega) (by rw [show ([] : List Nd).length + k = k from Nat.zero_add _]; exact ho6) hg6)
                have HB6 := Lib.hid (Blk.below HBe.out HR6.out.below HBe.out.lt)
                clear ho6 hg6 hat6 HR0 HS0 c0 c1 c2 c3 c4 c5 c6
                obtain ⟨c0, c1, c2, c3, c4, c5, c6⟩ := blk7 HB6.out
                have HR7 := Lib.hid (HR6.out.alloc (.cells (nc z).toArray 38))
                have HS7 := Lib.hid (src_nd_new w6 z 1)
                have hl6 : (xs.take k).length = k := by rw [List.length_take]; omega
                go_wp2_with (at_builtin; refine wpList_append_C _ rfl (.tmp 61) (.tmp 63) 32 32 rfl 38 i0 (.agg #[.int .i64 0, .int .i64 0, .bool false, .int .i64 0, .int .i64 0, .string ⟨#[]⟩, .string ⟨#[]⟩]) 7 Try.underlying32 HI.out HZ0.out HZ1.out rfl (by decide) x2.wd.heap.size _ (xs.take k).length (ncs (xs.take k)) rfl HR7.out.own (.slice (some ⟨w6.heap.size, 0, none⟩) 1 1) rfl 1 (ncs [z]) ?c1 ?c3 ?c4 ?c5 ?_)
                case c1 => exact HS7.out
                case c3 => unfold maxLen; omega
                case c4 => rw [HZ2.out]; omega
                case c5 => exact HR7.out.le
                intro v8 w8 ho8 hg8 hat8
                obtain ⟨A8, cp8, rfl⟩ := OwnC.isSlice ho8
                have HR8 : RowKit.Hid (Row x2.wd.heap.size x2.wd w8 (.slice A8 (k + 1) cp8) (xs.take k ++ [z])) := Lib.hid (HR7.out.more (zs := [z]) (m := 1) rfl (by rw [hl6]; exact ho8) hg8)
                have HE8 := Lib.hid (HE.out.after HR8.out.below)
                have hl8 : (xs.take k ++ [z]).length = k + 1 := by rw [List.length_append, hl6]; rfl
                clear ho8 hg8 hat8 HR7 HS7 HR6 HB6 c0 c1 c2 c3 c4 c5 c6
                have HS8 := Lib.hid (show Src Try.prog 7 32 (.slice (some (a.add (k * 7))) 0 (c - k)) 0 (ncs ([] : List Nd)) w8 from src_nds_none)
                go_wp2_with (at_builtin; refine wpList_append_C _ rfl (.tmp 65) (.tmp 68) 32 32 rfl 38 i0 (.agg #[.int .i64 0, .int .i64 0, .bool false, .int .i64 0, .int .i64 0, .string ⟨#[]⟩, .string ⟨#[]⟩]) 7 Try.underlying32 HI.out HZ0.out HZ1.out rfl (by decide) x2.wd.heap.size _ (xs.take k ++ [z]).length (ncs (xs.take k ++ [z])) rfl HR8.out.own (.slice (some (a.add (k * 7))) 0 (c - k)) rfl 0 (ncs (([] : List Nd))) ?c1 ?c3 ?c4 ?c5 ?_)
                case c1 => exact HS8.out
                case c3 => unfold maxLen; omega
                case c4 => rw [HZ2.out]; omega
                case c5 => exact HR8.out.le
                intro v9 w9 ho9 hg9 hat9
                have HR9 := Lib.hid (HR8.out.more (zs := ([] : List Nd)) (m := 0) (by simp) (by rw [hl8]; exact ho9) hg9)
                clear ho9 hg9 hat9 HR8 HS8 HE8
                go_wp2_with fail
                go_ret
                have HF : RowKit.Hid (ys = (xs.take k ++ [z]) ++ []) := Lib.hid (by have := HA.out _ HYt.out; rw [hdn] at this; rw [List.append_assoc]; exact this)
                rw [HF.out]
                have hsf : Short ((xs.take k ++ [z]) ++ []) := by rw [List.append_assoc]; have := short_insert HSh.out HOy.out k; rw [hdn] at this; exact this
                exact Done.own HR9.out.own hsf (HE.out.below.trans (HR9.out.below.mono HE.out.size))
    · clear hwhen
      have e1 : (x.kind == 1) = false := by simpa using h1
      rw [if_neg h1] at hys
      have HY := Lib.hid hys
      clear hys h1 hfk hall
      go_enter Try.func44, Try.ntmps44
      go_upto_region 1 with (fail)
      rw [← HW.out, ← HQ.out]
      go_wp2_with fail
      refine HP.out.mono ?_
      rintro e w2 ⟨rfl, hb2⟩
      have HD2 := Lib.hid (HD1.out.after hb2)
      obtain ⟨o0, o1, o2, o3, o4, o5, o6, o7, o8, o9, o10⟩ := blk11 HD2.out.b1
      clear hb2
      go_wp2_with fail
      go_ret
      rw [HY.out]
      exact Done.same HD2.out
end Go.Proofs.Ytaglomhmnoldlaa
