/- The document's Do where a node is turned. -/
import Derived.Test.YtaglomhmnoldlaaY2
namespace Go.Proofs.Ytaglomhmnoldlaa
open Go.RowKit
attribute [local go_sem] bs_size bs_getElem bs_list bs_append

theorem after_may {s : St} {A : Option Addr} {n c : Nat} {xs : List Nd} {W : World} (x : After W) {r : Bool} (hx : Nds W A n c xs) (hr : takesB s xs = r) : Calls Try.prog 58 #[.slice A n c, .agg #[.int .i64 s.1, .int .i64 s.2]] x.wd fun e w' => e = .returned (.bool r) ∧ ∃ y : After W, w' = y.wd := after_call (by rw [← hr]; exact may_any s A n c xs x.wd (hx.below x.below))
theorem set_split (xs : List Nd) (k : Nat) (z : Nd) (hk : k < xs.length) : (xs.take k ++ [z]) ++ xs.drop (k + 1) = xs.set k z := by
  rw [List.set_eq_take_append_cons_drop, if_pos hk, List.append_assoc]; rfl
set_option maxRecDepth 100000 in
set_option maxRecDepth 100000 in
set_option maxHeartbeats 6400000 in
theorem rdo_turn3 (x : TOp) (A : Option Addr) (n c : Nat) (xs : List Nd) (w : World) (hx : Nds w A n c xs) (hop : OpS x) (hm : n ≤ 100000) (k : Nat) (hk : k < xs.length) (hfk : firstI (isId x.node) xs = k) (h1 : x.kind ≠ 1) (h3 : x.kind = 3) :
    Calls Try.prog 44 #[.slice A n c, ov x] w (Done w (doN xs x)) := by
  obtain ⟨i0, hi0, hz0, hz1, hz2⟩ := info_parts info37
  have HI := Lib.hid hi0
  have HZ0 := Lib.hid hz0
  have HZ1 := Lib.hid hz1
  have HZ2 := Lib.hid hz2
  clear hi0 hz0 hz1 hz2
  have hn := hx.len
  have hmx := hx.max
  have hle := hx.le
  have hsh := hx.short
  have hD1 := DoR.start w x A n c xs hx
  obtain ⟨w1, hw1⟩ : ∃ w1, w1 = w.alloc (.cells (oc x).toArray 31) := ⟨_, rfl⟩
  obtain ⟨q1, hq1⟩ : ∃ q1, q1 = w.heap.size := ⟨_, rfl⟩
  have hD1 : DoR w.heap.size q1 w w1 x A n c xs := by rw [hq1, hw1]; exact hD1
  have HP := Lib.hid (at_any x.node A n c xs w1 hD1.nds)
  have HW := Lib.hid (show w1 = w.alloc (.cells #[.int .i64 x.st.1, .int .i64 x.st.2, .int .i64 x.seq, .int .i64 x.kind, .int .i64 x.node.1, .int .i64 x.node.2, .bool x.dir, .int .i64 x.par.1, .int .i64 x.par.2, .string (bs x.nm), .string (bs x.mf)] 31) from hw1)
  have HQ := Lib.hid hq1
  have HD1 := Lib.hid hD1
  have HSh := Lib.hid hsh
  have HOp := Lib.hid hop
  have HX := Lib.hid hx
  obtain ⟨o0, o1, o2, o3, o4, o5, o6, o7, o8, o9, o10⟩ := blk11 hD1.b1
  clear hD1 hw1 hq1 hsh hop hx
  unfold ov sv at *
  obtain ⟨ys, hys⟩ : ∃ ys, ys = doN xs x := ⟨_, rfl⟩
  rw [← hys]
  rw [hfk] at HP
  rw [doN_at hk hfk, if_neg h1] at hys
  have e2 : (x.kind == 2) = false := by rw [h3]; rfl
  have e3 : (x.kind == 3) = true := by rw [h3]; rfl
  have HK3 := Lib.hid h3
  clear h3
  have hk0 : decide ((k : Int) < 0) = false := decide_eq_false (by omega)
  have hkn : (k : Int) < (n : Int) := by omega
  have e1 : (x.kind == 1) = false := by simpa using h1
  have HY := Lib.hid hys
  have HK := Lib.hid hk
  clear hys h1 hfk
  go_enter Try.func44, Try.ntmps44
  go_upto_region 1 with (fail)
  rw [← HW.out, ← HQ.out]
  go_wp2_with fail
  refine HP.out.mono ?_
  rintro e w2 ⟨rfl, hb2⟩
  have HD2 := Lib.hid (HD1.out.after hb2)
  clear o0 o1 o2 o3 o4 o5 o6 o7 o8 o9 o10
  obtain ⟨o0, o1, o2, o3, o4, o5, o6, o7, o8, o9, o10⟩ := blk11 HD2.out.b1
  clear hb2
  obtain ⟨b, off, rfl, hbl, c0, c1, c2, c3, c4, c5, c6, m1, m2⟩ := Nds.at_ HD2.out.nds hk
  have HYs := Lib.hid (show ys = if (turnP xs x xs[k]).2 then xs.set k (turnP xs x xs[k]).1 else xs from HY.out)
  have HOy0 := Lib.hid (And.intro m1 m2)
  have HOz := Lib.hid (turnP_short (xs := xs) (y := xs[k]) HOp.out ⟨m1, m2⟩)
  have HSet := Lib.hid (show xs.set k xs[k] = xs from List.set_getElem_self hk)
  generalize hyk : xs[k] = y at *
  clear hyk m1 m2 HY
  go_upto_region 18 with (fail)
  have hD3 := HD2.out.alloc (.cells (nc y).toArray 38)
  have hB3 := Blk.new w2 38 (nc y).toArray
  have hsz := HD2.out.size
  have hne : q1 < w2.heap.size := HD2.out.b1.lt
  obtain ⟨w3, hw3⟩ : ∃ w3, w3 = w2.alloc (.cells (nc y).toArray 38) := ⟨_, rfl⟩
  obtain ⟨q2, hq2⟩ : ∃ q2, q2 = w2.heap.size := ⟨_, rfl⟩
  rw [← hw3, ← hq2] at hB3
  rw [← hw3] at hD3
  rw [← hq2] at hsz hne
  have hw3' : w3 = w2.alloc (.cells #[.int .i64 y.id.1, .int .i64 y.id.2, .bool y.dir, .int .i64 y.par.1, .int .i64 y.par.2, .string (bs y.nm), .string (bs y.mf)] 38) := hw3
  rw [← hw3', ← hq2]
  have HNe := Lib.hid hne
  have HD3 := Lib.hid hD3
  have HB3 := Lib.hid hB3
  have HSz := Lib.hid hsz
  clear hne hD3 hB3 hsz hw3 hw3' hq2 o0 o1 o2 o3 o4 o5 o6 o7 o8 o9 o10 c0 c1 c2 c3 c4 c5 c6 hbl
  obtain ⟨o0, o1, o2, o3, o4, o5, o6, o7, o8, o9, o10⟩ := blk11 HD3.out.b1
  obtain ⟨c0, c1, c2, c3, c4, c5, c6⟩ := blk7 HB3.out
  obtain ⟨f0, f1, f2, f3, f4, f5, f6⟩ := blkf7 HB3.out
  cases hd : y.dir with
  | true =>
    have HYt : RowKit.Hid (ys = xs) := by show ys = _; rw [HYs.out]; unfold turnP; simp [HK3.out, hd]
    rw [hd] at c2
    clear hd
    go_wp2_with fail
    go_ret
    rw [HYt.out]
    exact Done.same HD3.out
  | false =>
    obtain ⟨z, hz⟩ : ∃ z : Nd, z = { y with mf := x.mf } := ⟨_, rfl⟩
    have hP : turnP xs x y = (z, true) := by unfold turnP; simp [HK3.out, hd, hz]
    have HYt : RowKit.Hid (ys = xs.set k z) := by show ys = _; rw [HYs.out, hP, if_pos rfl]
    have HOy := Lib.hid (show z.nm.length ≤ 9223372036854775807 ∧ z.mf.length ≤ 9223372036854775807 by have := HOz.out; rw [hP] at this; exact this)
    have HZe := Lib.hid hz
    clear hP hz
    rw [hd] at c2
    have HDr := Lib.hid hd
    clear hd
    go_upto_region 30 with (fail)
    have hB7 : Blk (w3.setCell ⟨q2, 6, none⟩ (.string (bs x.mf))) q2 38 (nc z).toArray := by
      have := (Blk.set_ HB3.out 6 (.string (bs x.mf)))
      rw [HZe.out]
      simpa [nc] using this
    have hb7 : Below w.heap.size w (w3.setCell ⟨q2, 6, none⟩ (.string (bs x.mf))) := (Below.setCell HD3.out.below (p := ⟨q2, 6, none⟩) HSz.out (.string (bs x.mf)))
    have hq7 := (Blk.far HD3.out.b1 (p := ⟨q2, 6, none⟩) (Nat.ne_of_lt HNe.out) (.string (bs x.mf)))
    obtain ⟨w7, hw7⟩ : ∃ w7, w7 = (w3.setCell ⟨q2, 6, none⟩ (.string (bs x.mf))) := ⟨_, rfl⟩
    rw [← hw7] at hB7 hb7 hq7
    rw [← hw7]
    have HD7 := Lib.hid (show DoR w.heap.size q1 w w7 x (some ⟨b, off, none⟩) n c xs from ⟨hq7, HX.out.below hb7, hb7, HD3.out.h1⟩)
    have HB7 := Lib.hid hB7
    clear hw7 hb7 hq7 hB7 c0 c1 c2 c3 c4 c5 c6 f0 f1 f2 f3 f4 f5 f6 o0 o1 o2 o3 o4 o5 o6 o7 o8 o9 o10
    obtain ⟨c0, c1, c2, c3, c4, c5, c6⟩ := blk7 HB7.out
    have HE := HD7
    have HBe := HB7
    clear hmx
    by_cases hcn : k + 1 = c
    · subst hcn
      obtain rfl : n = k + 1 := by omega
      have hdn : xs.drop (k + 1) = [] := List.drop_eq_nil_of_le (by omega)
      have HR0 := Lib.hid (Row.nil_ (B := w7.heap.size) (w0 := w7) (Below.refl _ _) (Nat.le_refl _))
      have HS0 := Lib.hid (src_nds_take HE.out.nds (show k ≤ k + 1 by omega))
      go_wp2_with (at_builtin; refine wpList_append_C _ rfl (.tmp 114) (.tmp 117) 32 32 rfl 38 i0 (.agg #[.int .i64 0, .int .i64 0, .bool false, .int .i64 0, .int .i64 0, .string ⟨#[]⟩, .string ⟨#[]⟩]) 7 Try.underlying32 HI.out HZ0.out HZ1.out rfl (by decide) w7.heap.size _ 0 [] rfl HR0.out.own (.slice (some ⟨b, off, none⟩) k (k + 1)) rfl k (ncs (xs.take k)) ?c1 ?c3 ?c4 ?c5 ?_)
      case c1 => exact HS0.out
      case c3 => unfold maxLen; omega
      case c4 => rw [HZ2.out]; omega
      case c5 => exact Nat.le_refl _
      intro v6 w6 ho6 hg6 hat6
      obtain ⟨A6, cp6, rfl⟩ := OwnC.isSlice ho6
      have HR6 : RowKit.Hid (Row w7.heap.size w7 w6 (.slice A6 k cp6) (xs.take k)) := Lib.hid (HR0.out.more (ys := []) (zs := xs.take k) (m := k) (by rw [List.length_take]; omega) (by rw [show ([] : List Nd).length + k = k from Nat.zero_add _]; exact ho6) hg6)
      have HB6 := Lib.hid (Blk.below HBe.out HR6.out.below HBe.out.lt)
      clear ho6 hg6 hat6 HR0 HS0 c0 c1 c2 c3 c4 c5 c6
      obtain ⟨c0, c1, c2, c3, c4, c5, c6⟩ := blk7 HB6.out
      have HR7 := Lib.hid (HR6.out.alloc (.cells (nc z).toArray 38))
      have HS7 := Lib.hid (src_nd_new w6 z 1)
      have hl6 : (xs.take k).length = k := by rw [List.length_take]; omega
      go_wp2_with (at_builtin; refine wpList_append_C _ rfl (.tmp 119) (.tmp 121) 32 32 rfl 38 i0 (.agg #[.int .i64 0, .int .i64 0, .bool false, .int .i64 0, .int .i64 0, .string ⟨#[]⟩, .string ⟨#[]⟩]) 7 Try.underlying32 HI.out HZ0.out HZ1.out rfl (by decide) w7.heap.size _ (xs.take k).length (ncs (xs.take k)) rfl HR7.out.own (.slice (some ⟨w6.heap.size, 0, none⟩) 1 1) rfl 1 (ncs [z]) ?c1 ?c3 ?c4 ?c5 ?_)
      case c1 => exact HS7.out
      case c3 => unfold maxLen; omega
      case c4 => rw [HZ2.out]; omega
      case c5 => exact HR7.out.le
      intro v8 w8 ho8 hg8 hat8
      obtain ⟨A8, cp8, rfl⟩ := OwnC.isSlice ho8
      have HR8 : RowKit.Hid (Row w7.heap.size w7 w8 (.slice A8 (k + 1) cp8) (xs.take k ++ [z])) := Lib.hid (HR7.out.more (zs := [z]) (m := 1) rfl (by rw [hl6]; exact ho8) hg8)
      have HE8 := Lib.hid (HE.out.after HR8.out.below)
      have hl8 : (xs.take k ++ [z]).length = k + 1 := by rw [List.length_append, hl6]; rfl
      clear ho8 hg8 hat8 HR7 HS7 HR6 HB6 c0 c1 c2 c3 c4 c5 c6
      have HS8 := Lib.hid (show Src Try.prog 7 32 (.slice (some ⟨b, off, none⟩) 0 0) 0 (ncs ([] : List Nd)) w8 from src_nds_none)
      go_wp2_with (at_builtin; refine wpList_append_C _ rfl (.tmp 123) (.tmp 127) 32 32 rfl 38 i0 (.agg #[.int .i64 0, .int .i64 0, .bool false, .int .i64 0, .int .i64 0, .string ⟨#[]⟩, .string ⟨#[]⟩]) 7 Try.underlying32 HI.out HZ0.out HZ1.out rfl (by decide) w7.heap.size _ (xs.take k ++ [z]).length (ncs (xs.take k ++ [z])) rfl HR8.out.own (.slice (some ⟨b, off, none⟩) 0 0) rfl 0 (ncs (([] : List Nd))) ?c1 ?c3 ?c4 ?c5 ?_)
      case c1 => exact HS8.out
      case c3 => unfold maxLen; omega
      case c4 => rw [HZ2.out]; omega
      case c5 => exact HR8.out.le
      intro v9 w9 ho9 hg9 hat9
      have HR9 := Lib.hid (HR8.out.more (zs := ([] : List Nd)) (m := 0) (by simp) (by rw [hl8]; exact ho9) hg9)
      clear ho9 hg9 hat9 HR8 HS8 HE8
      go_wp2_with fail
      go_ret
      have HF : RowKit.Hid (ys = (xs.take k ++ [z]) ++ []) := Lib.hid (by rw [HYt.out, ← set_split xs k z HK.out]; rw [hdn])
      rw [HF.out]
      have hsf : Short ((xs.take k ++ [z]) ++ []) := by rw [← HF.out, HYt.out]; exact set_short HSh.out HOy.out k
      exact Done.own HR9.out.own hsf (HE.out.below.trans (HR9.out.below.mono HE.out.size))
    · have hcn1 : ¬ c = k + 1 := fun e => hcn e.symm
      have HR0 := Lib.hid (Row.nil_ (B := w7.heap.size) (w0 := w7) (Below.refl _ _) (Nat.le_refl _))
      have HS0 := Lib.hid (src_nds_take HE.out.nds (show k ≤ n by omega))
      go_wp2_with (at_builtin; refine wpList_append_C _ rfl (.tmp 114) (.tmp 117) 32 32 rfl 38 i0 (.agg #[.int .i64 0, .int .i64 0, .bool false, .int .i64 0, .int .i64 0, .string ⟨#[]⟩, .string ⟨#[]⟩]) 7 Try.underlying32 HI.out HZ0.out HZ1.out rfl (by decide) w7.heap.size _ 0 [] rfl HR0.out.own (.slice (some ⟨b, off, none⟩) k c) rfl k (ncs (xs.take k)) ?c1 ?c3 ?c4 ?c5 ?_)
      case c1 => exact HS0.out
      case c3 => unfold maxLen; omega
      case c4 => rw [HZ2.out]; omega
      case c5 => exact Nat.le_refl _
      intro v6 w6 ho6 hg6 hat6
      obtain ⟨A6, cp6, rfl⟩ := OwnC.isSlice ho6
      have HR6 : RowKit.Hid (Row w7.heap.size w7 w6 (.slice A6 k cp6) (xs.take k)) := Lib.hid (HR0.out.more (ys := []) (zs := xs.take k) (m := k) (by rw [List.length_take]; omega) (by rw [show ([] : List Nd).length + k = k from Nat.zero_add _]; exact ho6) hg6)
      have HB6 := Lib.hid (Blk.below HBe.out HR6.out.below HBe.out.lt)
      clear ho6 hg6 hat6 HR0 HS0 c0 c1 c2 c3 c4 c5 c6
      obtain ⟨c0, c1, c2, c3, c4, c5, c6⟩ := blk7 HB6.out
      have HR7 := Lib.hid (HR6.out.alloc (.cells (nc z).toArray 38))
      have HS7 := Lib.hid (src_nd_new w6 z 1)
      have hl6 : (xs.take k).length = k := by rw [List.length_take]; omega
      go_wp2_with (at_builtin; refine wpList_append_C _ rfl (.tmp 119) (.tmp 121) 32 32 rfl 38 i0 (.agg #[.int .i64 0, .int .i64 0, .bool false, .int .i64 0, .int .i64 0, .string ⟨#[]⟩, .string ⟨#[]⟩]) 7 Try.underlying32 HI.out HZ0.out HZ1.out rfl (by decide) w7.heap.size _ (xs.take k).length (ncs (xs.take k)) rfl HR7.out.own (.slice (some ⟨w6.heap.size, 0, none⟩) 1 1) rfl 1 (ncs [z]) ?c1 ?c3 ?c4 ?c5 ?_)
      case c1 => exact HS7.out
      case c3 => unfold maxLen; omega
      case c4 => rw [HZ2.out]; omega
      case c5 => exact HR7.out.le
      intro v8 w8 ho8 hg8 hat8
      obtain ⟨A8, cp8, rfl⟩ := OwnC.isSlice ho8
      have HR8 : RowKit.Hid (Row w7.heap.size w7 w8 (.slice A8 (k + 1) cp8) (xs.take k ++ [z])) := Lib.hid (HR7.out.more (zs := [z]) (m := 1) rfl (by rw [hl6]; exact ho8) hg8)
      have HE8 := Lib.hid (HE.out.after HR8.out.below)
      have hl8 : (xs.take k ++ [z]).length = k + 1 := by rw [List.length_append, hl6]; rfl
      clear ho8 hg8 hat8 HR7 HS7 HR6 HB6 c0 c1 c2 c3 c4 c5 c6
      have HS8 := Lib.hid (Src.nds (Nds.drop_ HE8.out.nds (show k + 1 ≤ n by omega)))
      go_wp2_with (at_builtin; refine wpList_append_C _ rfl (.tmp 123) (.tmp 127) 32 32 rfl 38 i0 (.agg #[.int .i64 0, .int .i64 0, .bool false, .int .i64 0, .int .i64 0, .string ⟨#[]⟩, .string ⟨#[]⟩]) 7 Try.underlying32 HI.out HZ0.out HZ1.out rfl (by decide) w7.heap.size _ (xs.take k ++ [z]).length (ncs (xs.take k ++ [z])) rfl HR8.out.own (.slice (some ⟨b, off + (k + 1) * 7, none⟩) (n - (k + 1)) (c - (k + 1))) rfl (n - (k + 1)) (ncs (xs.drop (k + 1))) ?c1 ?c3 ?c4 ?c5 ?_)
      case c1 => exact HS8.out
      case c3 => unfold maxLen; omega
      case c4 => rw [HZ2.out]; omega
      case c5 => exact HR8.out.le
      intro v9 w9 ho9 hg9 hat9
      have HR9 := Lib.hid (HR8.out.more (zs := xs.drop (k + 1)) (m := (n - (k + 1))) (by simp; omega) (by rw [hl8]; exact ho9) hg9)
      clear ho9 hg9 hat9 HR8 HS8 HE8
      go_wp2_with fail
      go_ret
      have HF : RowKit.Hid (ys = (xs.take k ++ [z]) ++ xs.drop (k + 1)) := Lib.hid (by rw [HYt.out, ← set_split xs k z HK.out])
      rw [HF.out]
      have hsf : Short ((xs.take k ++ [z]) ++ xs.drop (k + 1)) := by rw [← HF.out, HYt.out]; exact set_short HSh.out HOy.out k
      exact Done.own HR9.out.own hsf (HE.out.below.trans (HR9.out.below.mono HE.out.size))
set_option maxRecDepth 100000 in
set_option maxHeartbeats 6400000 in
theorem rdo_turn4 (x : TOp) (A : Option Addr) (n c : Nat) (xs : List Nd) (w : World) (hx : Nds w A n c xs) (hop : OpS x) (hm : n ≤ 100000) (k : Nat) (hk : k < xs.length) (hfk : firstI (isId x.node) xs = k) (h1 : x.kind ≠ 1) (h4 : x.kind = 4) :
    Calls Try.prog 44 #[.slice A n c, ov x] w (Done w (doN xs x)) := by
  obtain ⟨i0, hi0, hz0, hz1, hz2⟩ := info_parts info37
  have HI := Lib.hid hi0
  have HZ0 := Lib.hid hz0
  have HZ1 := Lib.hid hz1
  have HZ2 := Lib.hid hz2
  clear hi0 hz0 hz1 hz2
  have hn := hx.len
  have hmx := hx.max
  have hle := hx.le
  have hsh := hx.short
  have hD1 := DoR.start w x A n c xs hx
  obtain ⟨w1, hw1⟩ : ∃ w1, w1 = w.alloc (.cells (oc x).toArray 31) := ⟨_, rfl⟩
  obtain ⟨q1, hq1⟩ : ∃ q1, q1 = w.heap.size := ⟨_, rfl⟩
  have hD1 : DoR w.heap.size q1 w w1 x A n c xs := by rw [hq1, hw1]; exact hD1
  have HP := Lib.hid (at_any x.node A n c xs w1 hD1.nds)
  have HW := Lib.hid (show w1 = w.alloc (.cells #[.int .i64 x.st.1, .int .i64 x.st.2, .int .i64 x.seq, .int .i64 x.kind, .int .i64 x.node.1, .int .i64 x.node.2, .bool x.dir, .int .i64 x.par.1, .int .i64 x.par.2, .string (bs x.nm), .string (bs x.mf)] 31) from hw1)
  have HQ := Lib.hid hq1
  have HD1 := Lib.hid hD1
  have HSh := Lib.hid hsh
  have HOp := Lib.hid hop
  have HX := Lib.hid hx
  obtain ⟨o0, o1, o2, o3, o4, o5, o6, o7, o8, o9, o10⟩ := blk11 hD1.b1
  clear hD1 hw1 hq1 hsh hop hx
  unfold ov sv at *
  obtain ⟨ys, hys⟩ : ∃ ys, ys = doN xs x := ⟨_, rfl⟩
  rw [← hys]
  rw [hfk] at HP
  rw [doN_at hk hfk, if_neg h1] at hys
  have e2 : (x.kind == 2) = false := by rw [h4]; rfl
  have e3 : (x.kind == 3) = false := by rw [h4]; rfl
  have e4 : (x.kind == 4) = true := by rw [h4]; rfl
  have HK4 := Lib.hid h4
  clear h4
  have hk0 : decide ((k : Int) < 0) = false := decide_eq_false (by omega)
  have hkn : (k : Int) < (n : Int) := by omega
  have e1 : (x.kind == 1) = false := by simpa using h1
  have HY := Lib.hid hys
  have HK := Lib.hid hk
  clear hys h1 hfk
  go_enter Try.func44, Try.ntmps44
  go_upto_region 1 with (fail)
  rw [← HW.out, ← HQ.out]
  go_wp2_with fail
  refine HP.out.mono ?_
  rintro e w2 ⟨rfl, hb2⟩
  have HD2 := Lib.hid (HD1.out.after hb2)
  clear o0 o1 o2 o3 o4 o5 o6 o7 o8 o9 o10
  obtain ⟨o0, o1, o2, o3, o4, o5, o6, o7, o8, o9, o10⟩ := blk11 HD2.out.b1
  clear hb2
  obtain ⟨b, off, rfl, hbl, c0, c1, c2, c3, c4, c5, c6, m1, m2⟩ := Nds.at_ HD2.out.nds hk
  have HYs := Lib.hid (show ys = if (turnP xs x xs[k]).2 then xs.set k (turnP xs x xs[k]).1 else xs from HY.out)
  have HOy0 := Lib.hid (And.intro m1 m2)
  have HOz := Lib.hid (turnP_short (xs := xs) (y := xs[k]) HOp.out ⟨m1, m2⟩)
  have HSet := Lib.hid (show xs.set k xs[k] = xs from List.set_getElem_self hk)
  generalize hyk : xs[k] = y at *
  clear hyk m1 m2 HY
  go_upto_region 18 with (fail)
  have hD3 := HD2.out.alloc (.cells (nc y).toArray 38)
  have hB3 := Blk.new w2 38 (nc y).toArray
  have hsz := HD2.out.size
  have hne : q1 < w2.heap.size := HD2.out.b1.lt
  obtain ⟨w3, hw3⟩ : ∃ w3, w3 = w2.alloc (.cells (nc y).toArray 38) := ⟨_, rfl⟩
  obtain ⟨q2, hq2⟩ : ∃ q2, q2 = w2.heap.size := ⟨_, rfl⟩
  rw [← hw3, ← hq2] at hB3
  rw [← hw3] at hD3
  rw [← hq2] at hsz hne
  have hw3' : w3 = w2.alloc (.cells #[.int .i64 y.id.1, .int .i64 y.id.2, .bool y.dir, .int .i64 y.par.1, .int .i64 y.par.2, .string (bs y.nm), .string (bs y.mf)] 38) := hw3
  rw [← hw3', ← hq2]
  have HNe := Lib.hid hne
  have HD3 := Lib.hid hD3
  have HB3 := Lib.hid hB3
  have HSz := Lib.hid hsz
  clear hne hD3 hB3 hsz hw3 hw3' hq2 o0 o1 o2 o3 o4 o5 o6 o7 o8 o9 o10 c0 c1 c2 c3 c4 c5 c6 hbl
  obtain ⟨o0, o1, o2, o3, o4, o5, o6, o7, o8, o9, o10⟩ := blk11 HD3.out.b1
  obtain ⟨c0, c1, c2, c3, c4, c5, c6⟩ := blk7 HB3.out
  obtain ⟨f0, f1, f2, f3, f4, f5, f6⟩ := blkf7 HB3.out
  obtain ⟨z, hz⟩ : ∃ z : Nd, z = { y with par := (0, 1) } := ⟨_, rfl⟩
  have hP : turnP xs x y = (z, true) := by unfold turnP; simp [HK4.out, hz]
  have HYt : RowKit.Hid (ys = xs.set k z) := by show ys = _; rw [HYs.out, hP, if_pos rfl]
  have HOy := Lib.hid (show z.nm.length ≤ 9223372036854775807 ∧ z.mf.length ≤ 9223372036854775807 by have := HOz.out; rw [hP] at this; exact this)
  have HZe := Lib.hid hz
  clear hP hz
  go_wp2_with fail
  refine (rtrash_st w3).mono ?_
  rintro e w4 ⟨rfl, hb4⟩
  have HB4 := Lib.hid (Blk.below HB3.out hb4 HB3.out.lt)
  have HD4 := Lib.hid (HD3.out.after hb4)
  clear hb4 o0 o1 o2 o3 o4 o5 o6 o7 o8 o9 o10 c0 c1 c2 c3 c4 c5 c6 f0 f1 f2 f3 f4 f5 f6
  obtain ⟨o0, o1, o2, o3, o4, o5, o6, o7, o8, o9, o10⟩ := blk11 HD4.out.b1
  obtain ⟨c0, c1, c2, c3, c4, c5, c6⟩ := blk7 HB4.out
  obtain ⟨f0, f1, f2, f3, f4, f5, f6⟩ := blkf7 HB4.out
  go_upto_region 30 with (fail)
  have hB7 : Blk ((w4.setCell ⟨q2, 3, none⟩ (.int .i64 0)).setCell ⟨q2, 4, none⟩ (.int .i64 1)) q2 38 (nc z).toArray := by
    have := (Blk.set_ (Blk.set_ HB4.out 3 (.int .i64 0)) 4 (.int .i64 1))
    rw [HZe.out]
    simpa [nc] using this
  have hb7 : Below w.heap.size w ((w4.setCell ⟨q2, 3, none⟩ (.int .i64 0)).setCell ⟨q2, 4, none⟩ (.int .i64 1)) := (Below.setCell (Below.setCell HD4.out.below (p := ⟨q2, 3, none⟩) HSz.out (.int .i64 0)) (p := ⟨q2, 4, none⟩) HSz.out (.int .i64 1))
  have hq7 := (Blk.far (Blk.far HD4.out.b1 (p := ⟨q2, 3, none⟩) (Nat.ne_of_lt HNe.out) (.int .i64 0)) (p := ⟨q2, 4, none⟩) (Nat.ne_of_lt HNe.out) (.int .i64 1))
  obtain ⟨w7, hw7⟩ : ∃ w7, w7 = ((w4.setCell ⟨q2, 3, none⟩ (.int .i64 0)).setCell ⟨q2, 4, none⟩ (.int .i64 1)) := ⟨_, rfl⟩
  rw [← hw7] at hB7 hb7 hq7
  rw [← hw7]
  have HD7 := Lib.hid (show DoR w.heap.size q1 w w7 x (some ⟨b, off, none⟩) n c xs from ⟨hq7, HX.out.below hb7, hb7, HD3.out.h1⟩)
  have HB7 := Lib.hid hB7
  clear hw7 hb7 hq7 hB7 c0 c1 c2 c3 c4 c5 c6 f0 f1 f2 f3 f4 f5 f6 o0 o1 o2 o3 o4 o5 o6 o7 o8 o9 o10
  obtain ⟨c0, c1, c2, c3, c4, c5, c6⟩ := blk7 HB7.out
  have HE := HD7
  have HBe := HB7
  clear hmx
  by_cases hcn : k + 1 = c
  · subst hcn
    obtain rfl : n = k + 1 := by omega
    have hdn : xs.drop (k + 1) = [] := List.drop_eq_nil_of_le (by omega)
    have HR0 := Lib.hid (Row.nil_ (B := w7.heap.size) (w0 := w7) (Below.refl _ _) (Nat.le_refl _))
    have HS0 := Lib.hid (src_nds_take HE.out.nds (show k ≤ k + 1 by omega))
    go_wp2_with (at_builtin; refine wpList_append_C _ rfl (.tmp 114) (.tmp 117) 32 32 rfl 38 i0 (.agg #[.int .i64 0, .int .i64 0, .bool false, .int .i64 0, .int .i64 0, .string ⟨#[]⟩, .string ⟨#[]⟩]) 7 Try.underlying32 HI.out HZ0.out HZ1.out rfl (by decide) w7.heap.size _ 0 [] rfl HR0.out.own (.slice (some ⟨b, off, none⟩) k (k + 1)) rfl k (ncs (xs.take k)) ?c1 ?c3 ?c4 ?c5 ?_)
    case c1 => exact HS0.out
    case c3 => unfold maxLen; omega
    case c4 => rw [HZ2.out]; omega
    case c5 => exact Nat.le_refl _
    intro v6 w6 ho6 hg6 hat6
    obtain ⟨A6, cp6, rfl⟩ := OwnC.isSlice ho6
    have HR6 : RowKit.Hid (Row w7.heap.size w7 w6 (.slice A6 k cp6) (xs.take k)) := Lib.hid (HR0.out.more (ys := []) (zs := xs.take k) (m := k) (by rw [List.length_take]; omega) (by rw [show ([] : List Nd).length + k = k from Nat.zero_add _]; exact ho6) hg6)
    have HB6 := Lib.hid (Blk.below HBe.out HR6.out.below HBe.out.lt)
    clear ho6 hg6 hat6 HR0 HS0 c0 c1 c2 c3 c4 c5 c6
    obtain ⟨c0, c1, c2, c3, c4, c5, c6⟩ := blk7 HB6.out
    have HR7 := Lib.hid (HR6.out.alloc (.cells (nc z).toArray 38))
    have HS7 := Lib.hid (src_nd_new w6 z 1)
    have hl6 : (xs.take k).length = k := by rw [List.length_take]; omega
    go_wp2_with (at_builtin; refine wpList_append_C _ rfl (.tmp 119) (.tmp 121) 32 32 rfl 38 i0 (.agg #[.int .i64 0, .int .i64 0, .bool false, .int .i64 0, .int .i64 0, .string ⟨#[]⟩, .string ⟨#[]⟩]) 7 Try.underlying32 HI.out HZ0.out HZ1.out rfl (by decide) w7.heap.size _ (xs.take k).length (ncs (xs.take k)) rfl HR7.out.own (.slice (some ⟨w6.heap.size, 0, none⟩) 1 1) rfl 1 (ncs [z]) ?c1 ?c3 ?c4 ?c5 ?_)
    case c1 => exact HS7.out
    case c3 => unfold maxLen; omega
    case c4 => rw [HZ2.out]; omega
    case c5 => exact HR7.out.le
    intro v8 w8 ho8 hg8 hat8
    obtain ⟨A8, cp8, rfl⟩ := OwnC.isSlice ho8
    have HR8 : RowKit.Hid (Row w7.heap.size w7 w8 (.slice A8 (k + 1) cp8) (xs.take k ++ [z])) := Lib.hid (HR7.out.more (zs := [z]) (m := 1) rfl (by rw [hl6]; exact ho8) hg8)
    have HE8 := Lib.hid (HE.out.after HR8.out.below)
    have hl8 : (xs.take k ++ [z]).length = k + 1 := by rw [List.length_append, hl6]; rfl
    clear ho8 hg8 hat8 HR7 HS7 HR6 HB6 c0 c1 c2 c3 c4 c5 c6
    have HS8 := Lib.hid (show Src Try.prog 7 32 (.slice (some ⟨b, off, none⟩) 0 0) 0 (ncs ([] : List Nd)) w8 from src_nds_none)
    go_wp2_with (at_builtin; refine wpList_append_C _ rfl (.tmp 123) (.tmp 127) 32 32 rfl 38 i0 (.agg #[.int .i64 0, .int .i64 0, .bool false, .int .i64 0, .int .i64 0, .string ⟨#[]⟩, .string ⟨#[]⟩]) 7 Try.underlying32 HI.out HZ0.out HZ1.out rfl (by decide) w7.heap.size _ (xs.take k ++ [z]).length (ncs (xs.take k ++ [z])) rfl HR8.out.own (.slice (some ⟨b, off, none⟩) 0 0) rfl 0 (ncs (([] : List Nd))) ?c1 ?c3 ?c4 ?c5 ?_)
    case c1 => exact HS8.out
    case c3 => unfold maxLen; omega
    case c4 => rw [HZ2.out]; omega
    case c5 => exact HR8.out.le
    intro v9 w9 ho9 hg9 hat9
    have HR9 := Lib.hid (HR8.out.more (zs := ([] : List Nd)) (m := 0) (by simp) (by rw [hl8]; exact ho9) hg9)
    clear ho9 hg9 hat9 HR8 HS8 HE8
    go_wp2_with fail
    go_ret
    have HF : RowKit.Hid (ys = (xs.take k ++ [z]) ++ []) := Lib.hid (by rw [HYt.out, ← set_split xs k z HK.out]; rw [hdn])
    rw [HF.out]
    have hsf : Short ((xs.take k ++ [z]) ++ []) := by rw [← HF.out, HYt.out]; exact set_short HSh.out HOy.out k
    exact Done.own HR9.out.own hsf (HE.out.below.trans (HR9.out.below.mono HE.out.size))
  · have hcn1 : ¬ c = k + 1 := fun e => hcn e.symm
    have HR0 := Lib.hid (Row.nil_ (B := w7.heap.size) (w0 := w7) (Below.refl _ _) (Nat.le_refl _))
    have HS0 := Lib.hid (src_nds_take HE.out.nds (show k ≤ n by omega))
    go_wp2_with (at_builtin; refine wpList_append_C _ rfl (.tmp 114) (.tmp 117) 32 32 rfl 38 i0 (.agg #[.int .i64 0, .int .i64 0, .bool false, .int .i64 0, .int .i64 0, .string ⟨#[]⟩, .string ⟨#[]⟩]) 7 Try.underlying32 HI.out HZ0.out HZ1.out rfl (by decide) w7.heap.size _ 0 [] rfl HR0.out.own (.slice (some ⟨b, off, none⟩) k c) rfl k (ncs (xs.take k)) ?c1 ?c3 ?c4 ?c5 ?_)
    case c1 => exact HS0.out
    case c3 => unfold maxLen; omega
    case c4 => rw [HZ2.out]; omega
    case c5 => exact Nat.le_refl _
    intro v6 w6 ho6 hg6 hat6
    obtain ⟨A6, cp6, rfl⟩ := OwnC.isSlice ho6
    have HR6 : RowKit.Hid (Row w7.heap.size w7 w6 (.slice A6 k cp6) (xs.take k)) := Lib.hid (HR0.out.more (ys := []) (zs := xs.take k) (m := k) (by rw [List.length_take]; omega) (by rw [show ([] : List Nd).length + k = k from Nat.zero_add _]; exact ho6) hg6)
    have HB6 := Lib.hid (Blk.below HBe.out HR6.out.below HBe.out.lt)
    clear ho6 hg6 hat6 HR0 HS0 c0 c1 c2 c3 c4 c5 c6
    obtain ⟨c0, c1, c2, c3, c4, c5, c6⟩ := blk7 HB6.out
    have HR7 := Lib.hid (HR6.out.alloc (.cells (nc z).toArray 38))
    have HS7 := Lib.hid (src_nd_new w6 z 1)
    have hl6 : (xs.take k).length = k := by rw [List.length_take]; omega
    go_wp2_with (at_builtin; refine wpList_append_C _ rfl (.tmp 119) (.tmp 121) 32 32 rfl 38 i0 (.agg #[.int .i64 0, .int .i64 0, .bool false, .int .i64 0, .int .i64 0, .string ⟨#[]⟩, .string ⟨#[]⟩]) 7 Try.underlying32 HI.out HZ0.out HZ1.out rfl (by decide) w7.heap.size _ (xs.take k).length (ncs (xs.take k)) rfl HR7.out.own (.slice (some ⟨w6.heap.size, 0, none⟩) 1 1) rfl 1 (ncs [z]) ?c1 ?c3 ?c4 ?c5 ?_)
    case c1 => exact HS7.out
    case c3 => unfold maxLen; omega
    case c4 => rw [HZ2.out]; omega
    case c5 => exact HR7.out.le
    intro v8 w8 ho8 hg8 hat8
    obtain ⟨A8, cp8, rfl⟩ := OwnC.isSlice ho8
    have HR8 : RowKit.Hid (Row w7.heap.size w7 w8 (.slice A8 (k + 1) cp8) (xs.take k ++ [z])) := Lib.hid (HR7.out.more (zs := [z]) (m := 1) rfl (by rw [hl6]; exact ho8) hg8)
    have HE8 := Lib.hid (HE.out.after HR8.out.below)
    have hl8 : (xs.take k ++ [z]).length = k + 1 := by rw [List.length_append, hl6]; rfl
    clear ho8 hg8 hat8 HR7 HS7 HR6 HB6 c0 c1 c2 c3 c4 c5 c6
    have HS8 := Lib.hid (Src.nds (Nds.drop_ HE8.out.nds (show k + 1 ≤ n by omega)))
    go_wp2_with (at_builtin; refine wpList_append_C _ rfl (.tmp 123) (.tmp 127) 32 32 rfl 38 i0 (.agg #[.int .i64 0, .int .i64 0, .bool false, .int .i64 0, .int .i64 0, .string ⟨#[]⟩, .string ⟨#[]⟩]) 7 Try.underlying32 HI.out HZ0.out HZ1.out rfl (by decide) w7.heap.size _ (xs.take k ++ [z]).length (ncs (xs.take k ++ [z])) rfl HR8.out.own (.slice (some ⟨b, off + (k + 1) * 7, none⟩) (n - (k + 1)) (c - (k + 1))) rfl (n - (k + 1)) (ncs (xs.drop (k + 1))) ?c1 ?c3 ?c4 ?c5 ?_)
    case c1 => exact HS8.out
    case c3 => unfold maxLen; omega
    case c4 => rw [HZ2.out]; omega
    case c5 => exact HR8.out.le
    intro v9 w9 ho9 hg9 hat9
    have HR9 := Lib.hid (HR8.out.more (zs := xs.drop (k + 1)) (m := (n - (k + 1))) (by simp; omega) (by rw [hl8]; exact ho9) hg9)
    clear ho9 hg9 hat9 HR8 HS8 HE8
    go_wp2_with fail
    go_ret
    have HF : RowKit.Hid (ys = (xs.take k ++ [z]) ++ xs.drop (k + 1)) := Lib.hid (by rw [HYt.out, ← set_split xs k z HK.out])
    rw [HF.out]
    have hsf : Short ((xs.take k ++ [z]) ++ xs.drop (k + 1)) := by rw [← HF.out, HYt.out]; exact set_short HSh.out HOy.out k
    exact Done.own HR9.out.own hsf (HE.out.below.trans (HR9.out.below.mono HE.out.size))
set_option maxRecDepth 100000 in
set_option maxHeartbeats 6400000 in
theorem rdo_turn5 (x : TOp) (A : Option Addr) (n c : Nat) (xs : List Nd) (w : World) (hx : Nds w A n c xs) (hop : OpS x) (hm : n ≤ 100000) (k : Nat) (hk : k < xs.length) (hfk : firstI (isId x.node) xs = k) (h1 : x.kind ≠ 1) (h2 : x.kind ≠ 2) (h3 : x.kind ≠ 3) (h4 : x.kind ≠ 4) :
    Calls Try.prog 44 #[.slice A n c, ov x] w (Done w (doN xs x)) := by
  obtain ⟨i0, hi0, hz0, hz1, hz2⟩ := info_parts info37
  have HI := Lib.hid hi0
  have HZ0 := Lib.hid hz0
  have HZ1 := Lib.hid hz1
  have HZ2 := Lib.hid hz2
  clear hi0 hz0 hz1 hz2
  have hn := hx.len
  have hmx := hx.max
  have hle := hx.le
  have hsh := hx.short
  have hD1 := DoR.start w x A n c xs hx
  obtain ⟨w1, hw1⟩ : ∃ w1, w1 = w.alloc (.cells (oc x).toArray 31) := ⟨_, rfl⟩
  obtain ⟨q1, hq1⟩ : ∃ q1, q1 = w.heap.size := ⟨_, rfl⟩
  have hD1 : DoR w.heap.size q1 w w1 x A n c xs := by rw [hq1, hw1]; exact hD1
  have HP := Lib.hid (at_any x.node A n c xs w1 hD1.nds)
  have HW := Lib.hid (show w1 = w.alloc (.cells #[.int .i64 x.st.1, .int .i64 x.st.2, .int .i64 x.seq, .int .i64 x.kind, .int .i64 x.node.1, .int .i64 x.node.2, .bool x.dir, .int .i64 x.par.1, .int .i64 x.par.2, .string (bs x.nm), .string (bs x.mf)] 31) from hw1)
  have HQ := Lib.hid hq1
  have HD1 := Lib.hid hD1
  have HSh := Lib.hid hsh
  have HOp := Lib.hid hop
  have HX := Lib.hid hx
  obtain ⟨o0, o1, o2, o3, o4, o5, o6, o7, o8, o9, o10⟩ := blk11 hD1.b1
  clear hD1 hw1 hq1 hsh hop hx
  unfold ov sv at *
  obtain ⟨ys, hys⟩ : ∃ ys, ys = doN xs x := ⟨_, rfl⟩
  rw [← hys]
  rw [hfk] at HP
  rw [doN_at hk hfk, if_neg h1] at hys
  have e2 : (x.kind == 2) = false := by simpa using h2
  have e3 : (x.kind == 3) = false := by simpa using h3
  have e4 : (x.kind == 4) = false := by simpa using h4
  have HK2 := Lib.hid h2
  clear h2
  have HK3 := Lib.hid h3
  clear h3
  have HK4 := Lib.hid h4
  clear h4
  have hk0 : decide ((k : Int) < 0) = false := decide_eq_false (by omega)
  have hkn : (k : Int) < (n : Int) := by omega
  have e1 : (x.kind == 1) = false := by simpa using h1
  have HY := Lib.hid hys
  have HK := Lib.hid hk
  clear hys h1 hfk
  go_enter Try.func44, Try.ntmps44
  go_upto_region 1 with (fail)
  rw [← HW.out, ← HQ.out]
  go_wp2_with fail
  refine HP.out.mono ?_
  rintro e w2 ⟨rfl, hb2⟩
  have HD2 := Lib.hid (HD1.out.after hb2)
  clear o0 o1 o2 o3 o4 o5 o6 o7 o8 o9 o10
  obtain ⟨o0, o1, o2, o3, o4, o5, o6, o7, o8, o9, o10⟩ := blk11 HD2.out.b1
  clear hb2
  obtain ⟨b, off, rfl, hbl, c0, c1, c2, c3, c4, c5, c6, m1, m2⟩ := Nds.at_ HD2.out.nds hk
  have HYs := Lib.hid (show ys = if (turnP xs x xs[k]).2 then xs.set k (turnP xs x xs[k]).1 else xs from HY.out)
  have HOy0 := Lib.hid (And.intro m1 m2)
  have HOz := Lib.hid (turnP_short (xs := xs) (y := xs[k]) HOp.out ⟨m1, m2⟩)
  have HSet := Lib.hid (show xs.set k xs[k] = xs from List.set_getElem_self hk)
  generalize hyk : xs[k] = y at *
  clear hyk m1 m2 HY
  go_upto_region 18 with (fail)
  have hD3 := HD2.out.alloc (.cells (nc y).toArray 38)
  have hB3 := Blk.new w2 38 (nc y).toArray
  have hsz := HD2.out.size
  have hne : q1 < w2.heap.size := HD2.out.b1.lt
  obtain ⟨w3, hw3⟩ : ∃ w3, w3 = w2.alloc (.cells (nc y).toArray 38) := ⟨_, rfl⟩
  obtain ⟨q2, hq2⟩ : ∃ q2, q2 = w2.heap.size := ⟨_, rfl⟩
  rw [← hw3, ← hq2] at hB3
  rw [← hw3] at hD3
  rw [← hq2] at hsz hne
  have hw3' : w3 = w2.alloc (.cells #[.int .i64 y.id.1, .int .i64 y.id.2, .bool y.dir, .int .i64 y.par.1, .int .i64 y.par.2, .string (bs y.nm), .string (bs y.mf)] 38) := hw3
  rw [← hw3', ← hq2]
  have HNe := Lib.hid hne
  have HD3 := Lib.hid hD3
  have HB3 := Lib.hid hB3
  have HSz := Lib.hid hsz
  clear hne hD3 hB3 hsz hw3 hw3' hq2 o0 o1 o2 o3 o4 o5 o6 o7 o8 o9 o10 c0 c1 c2 c3 c4 c5 c6 hbl
  obtain ⟨o0, o1, o2, o3, o4, o5, o6, o7, o8, o9, o10⟩ := blk11 HD3.out.b1
  obtain ⟨c0, c1, c2, c3, c4, c5, c6⟩ := blk7 HB3.out
  obtain ⟨f0, f1, f2, f3, f4, f5, f6⟩ := blkf7 HB3.out
  have HYt : RowKit.Hid (ys = xs.set k y) := by show ys = _; rw [HYs.out, HSet.out]; unfold turnP; simp [HK2.out, HK3.out, HK4.out]
  have HOy := HOy0
  clear f0 f1 f2 f3 f4 f5 f6 o4 o5 o6 o7 o8 o9 o10
  have HE := HD3
  have HBe := HB3
  clear hmx
  by_cases hcn : k + 1 = c
  · subst hcn
    obtain rfl : n = k + 1 := by omega
    have hdn : xs.drop (k + 1) = [] := List.drop_eq_nil_of_le (by omega)
    have HR0 := Lib.hid (Row.nil_ (B := w3.heap.size) (w0 := w3) (Below.refl _ _) (Nat.le_refl _))
    have HS0 := Lib.hid (src_nds_take HE.out.nds (show k ≤ k + 1 by omega))
    go_wp2_with (at_builtin; refine wpList_append_C _ rfl (.tmp 114) (.tmp 117) 32 32 rfl 38 i0 (.agg #[.int .i64 0, .int .i64 0, .bool false, .int .i64 0, .int .i64 0, .string ⟨#[]⟩, .string ⟨#[]⟩]) 7 Try.underlying32 HI.out HZ0.out HZ1.out rfl (by decide) w3.heap.size _ 0 [] rfl HR0.out.own (.slice (some ⟨b, off, none⟩) k (k + 1)) rfl k (ncs (xs.take k)) ?c1 ?c3 ?c4 ?c5 ?_)
    case c1 => exact HS0.out
    case c3 => unfold maxLen; omega
    case c4 => rw [HZ2.out]; omega
    case c5 => exact Nat.le_refl _
    intro v6 w6 ho6 hg6 hat6
    obtain ⟨A6, cp6, rfl⟩ := OwnC.isSlice ho6
    have HR6 : RowKit.Hid (Row w3.heap.size w3 w6 (.slice A6 k cp6) (xs.take k)) := Lib.hid (HR0.out.more (ys := []) (zs := xs.take k) (m := k) (by rw [List.length_take]; omega) (by rw [show ([] : List Nd).length + k = k from Nat.zero_add _]; exact ho6) hg6)
    have HB6 := Lib.hid (Blk.below HBe.out HR6.out.below HBe.out.lt)
    clear ho6 hg6 hat6 HR0 HS0 c0 c1 c2 c3 c4 c5 c6
    obtain ⟨c0, c1, c2, c3, c4, c5, c6⟩ := blk7 HB6.out
    have HR7 := Lib.hid (HR6.out.alloc (.cells (nc y).toArray 38))
    have HS7 := Lib.hid (src_nd_new w6 y 1)
    have hl6 : (xs.take k).length = k := by rw [List.length_take]; omega
    go_wp2_with (at_builtin; refine wpList_append_C _ rfl (.tmp 119) (.tmp 121) 32 32 rfl 38 i0 (.agg #[.int .i64 0, .int .i64 0, .bool false, .int .i64 0, .int .i64 0, .string ⟨#[]⟩, .string ⟨#[]⟩]) 7 Try.underlying32 HI.out HZ0.out HZ1.out rfl (by decide) w3.heap.size _ (xs.take k).length (ncs (xs.take k)) rfl HR7.out.own (.slice (some ⟨w6.heap.size, 0, none⟩) 1 1) rfl 1 (ncs [y]) ?c1 ?c3 ?c4 ?c5 ?_)
    case c1 => exact HS7.out
    case c3 => unfold maxLen; omega
    case c4 => rw [HZ2.out]; omega
    case c5 => exact HR7.out.le
    intro v8 w8 ho8 hg8 hat8
    obtain ⟨A8, cp8, rfl⟩ := OwnC.isSlice ho8
    have HR8 : RowKit.Hid (Row w3.heap.size w3 w8 (.slice A8 (k + 1) cp8) (xs.take k ++ [y])) := Lib.hid (HR7.out.more (zs := [y]) (m := 1) rfl (by rw [hl6]; exact ho8) hg8)
    have HE8 := Lib.hid (HE.out.after HR8.out.below)
    have hl8 : (xs.take k ++ [y]).length = k + 1 := by rw [List.length_append, hl6]; rfl
    clear ho8 hg8 hat8 HR7 HS7 HR6 HB6 c0 c1 c2 c3 c4 c5 c6
    have HS8 := Lib.hid (show Src Try.prog 7 32 (.slice (some ⟨b, off, none⟩) 0 0) 0 (ncs ([] : List Nd)) w8 from src_nds_none)
    go_wp2_with (at_builtin; refine wpList_append_C _ rfl (.tmp 123) (.tmp 127) 32 32 rfl 38 i0 (.agg #[.int .i64 0, .int .i64 0, .bool false, .int .i64 0, .int .i64 0, .string ⟨#[]⟩, .string ⟨#[]⟩]) 7 Try.underlying32 HI.out HZ0.out HZ1.out rfl (by decide) w3.heap.size _ (xs.take k ++ [y]).length (ncs (xs.take k ++ [y])) rfl HR8.out.own (.slice (some ⟨b, off, none⟩) 0 0) rfl 0 (ncs (([] : List Nd))) ?c1 ?c3 ?c4 ?c5 ?_)
    case c1 => exact HS8.out
    case c3 => unfold maxLen; omega
    case c4 => rw [HZ2.out]; omega
    case c5 => exact HR8.out.le
    intro v9 w9 ho9 hg9 hat9
    have HR9 := Lib.hid (HR8.out.more (zs := ([] : List Nd)) (m := 0) (by simp) (by rw [hl8]; exact ho9) hg9)
    clear ho9 hg9 hat9 HR8 HS8 HE8
    go_wp2_with fail
    go_ret
    have HF : RowKit.Hid (ys = (xs.take k ++ [y]) ++ []) := Lib.hid (by rw [HYt.out, ← set_split xs k y HK.out]; rw [hdn])
    rw [HF.out]
    have hsf : Short ((xs.take k ++ [y]) ++ []) := by rw [← HF.out, HYt.out]; exact set_short HSh.out HOy.out k
    exact Done.own HR9.out.own hsf (HE.out.below.trans (HR9.out.below.mono HE.out.size))
  · have hcn1 : ¬ c = k + 1 := fun e => hcn e.symm
    have HR0 := Lib.hid (Row.nil_ (B := w3.heap.size) (w0 := w3) (Below.refl _ _) (Nat.le_refl _))
    have HS0 := Lib.hid (src_nds_take HE.out.nds (show k ≤ n by omega))
    go_wp2_with (at_builtin; refine wpList_append_C _ rfl (.tmp 114) (.tmp 117) 32 32 rfl 38 i0 (.agg #[.int .i64 0, .int .i64 0, .bool false, .int .i64 0, .int .i64 0, .string ⟨#[]⟩, .string ⟨#[]⟩]) 7 Try.underlying32 HI.out HZ0.out HZ1.out rfl (by decide) w3.heap.size _ 0 [] rfl HR0.out.own (.slice (some ⟨b, off, none⟩) k c) rfl k (ncs (xs.take k)) ?c1 ?c3 ?c4 ?c5 ?_)
    case c1 => exact HS0.out
    case c3 => unfold maxLen; omega
    case c4 => rw [HZ2.out]; omega
    case c5 => exact Nat.le_refl _
    intro v6 w6 ho6 hg6 hat6
    obtain ⟨A6, cp6, rfl⟩ := OwnC.isSlice ho6
    have HR6 : RowKit.Hid (Row w3.heap.size w3 w6 (.slice A6 k cp6) (xs.take k)) := Lib.hid (HR0.out.more (ys := []) (zs := xs.take k) (m := k) (by rw [List.length_take]; omega) (by rw [show ([] : List Nd).length + k = k from Nat.zero_add _]; exact ho6) hg6)
    have HB6 := Lib.hid (Blk.below HBe.out HR6.out.below HBe.out.lt)
    clear ho6 hg6 hat6 HR0 HS0 c0 c1 c2 c3 c4 c5 c6
    obtain ⟨c0, c1, c2, c3, c4, c5, c6⟩ := blk7 HB6.out
    have HR7 := Lib.hid (HR6.out.alloc (.cells (nc y).toArray 38))
    have HS7 := Lib.hid (src_nd_new w6 y 1)
    have hl6 : (xs.take k).length = k := by rw [List.length_take]; omega
    go_wp2_with (at_builtin; refine wpList_append_C _ rfl (.tmp 119) (.tmp 121) 32 32 rfl 38 i0 (.agg #[.int .i64 0, .int .i64 0, .bool false, .int .i64 0, .int .i64 0, .string ⟨#[]⟩, .string ⟨#[]⟩]) 7 Try.underlying32 HI.out HZ0.out HZ1.out rfl (by decide) w3.heap.size _ (xs.take k).length (ncs (xs.take k)) rfl HR7.out.own (.slice (some ⟨w6.heap.size, 0, none⟩) 1 1) rfl 1 (ncs [y]) ?c1 ?c3 ?c4 ?c5 ?_)
    case c1 => exact HS7.out
    case c3 => unfold maxLen; omega
    case c4 => rw [HZ2.out]; omega
    case c5 => exact HR7.out.le
    intro v8 w8 ho8 hg8 hat8
    obtain ⟨A8, cp8, rfl⟩ := OwnC.isSlice ho8
    have HR8 : RowKit.Hid (Row w3.heap.size w3 w8 (.slice A8 (k + 1) cp8) (xs.take k ++ [y])) := Lib.hid (HR7.out.more (zs := [y]) (m := 1) rfl (by rw [hl6]; exact ho8) hg8)
    have HE8 := Lib.hid (HE.out.after HR8.out.below)
    have hl8 : (xs.take k ++ [y]).length = k + 1 := by rw [List.length_append, hl6]; rfl
    clear ho8 hg8 hat8 HR7 HS7 HR6 HB6 c0 c1 c2 c3 c4 c5 c6
    have HS8 := Lib.hid (Src.nds (Nds.drop_ HE8.out.nds (show k + 1 ≤ n by omega)))
    go_wp2_with (at_builtin; refine wpList_append_C _ rfl (.tmp 123) (.tmp 127) 32 32 rfl 38 i0 (.agg #[.int .i64 0, .int .i64 0, .bool false, .int .i64 0, .int .i64 0, .string ⟨#[]⟩, .string ⟨#[]⟩]) 7 Try.underlying32 HI.out HZ0.out HZ1.out rfl (by decide) w3.heap.size _ (xs.take k ++ [y]).length (ncs (xs.take k ++ [y])) rfl HR8.out.own (.slice (some ⟨b, off + (k + 1) * 7, none⟩) (n - (k + 1)) (c - (k + 1))) rfl (n - (k + 1)) (ncs (xs.drop (k + 1))) ?c1 ?c3 ?c4 ?c5 ?_)
    case c1 => exact HS8.out
    case c3 => unfold maxLen; omega
    case c4 => rw [HZ2.out]; omega
    case c5 => exact HR8.out.le
    intro v9 w9 ho9 hg9 hat9
    have HR9 := Lib.hid (HR8.out.more (zs := xs.drop (k + 1)) (m := (n - (k + 1))) (by simp; omega) (by rw [hl8]; exact ho9) hg9)
    clear ho9 hg9 hat9 HR8 HS8 HE8
    go_wp2_with fail
    go_ret
    have HF : RowKit.Hid (ys = (xs.take k ++ [y]) ++ xs.drop (k + 1)) := Lib.hid (by rw [HYt.out, ← set_split xs k y HK.out])
    rw [HF.out]
    have hsf : Short ((xs.take k ++ [y]) ++ xs.drop (k + 1)) := by rw [← HF.out, HYt.out]; exact set_short HSh.out HOy.out k
    exact Done.own HR9.out.own hsf (HE.out.below.trans (HR9.out.below.mono HE.out.size))
set_option maxRecDepth 100000 in
set_option maxHeartbeats 6400000 in
theorem rdo_turn2 (x : TOp) (A : Option Addr) (n c : Nat) (xs : List Nd) (w : World) (hx : Nds w A n c xs) (hop : OpS x) (hm : n ≤ 100000) (k : Nat) (hk : k < xs.length) (hfk : firstI (isId x.node) xs = k) (h1 : x.kind ≠ 1) (h2 : x.kind = 2) :
    Calls Try.prog 44 #[.slice A n c, ov x] w (Done w (doN xs x)) := by
  obtain ⟨i0, hi0, hz0, hz1, hz2⟩ := info_parts info37
  have HI := Lib.hid hi0
  have HZ0 := Lib.hid hz0
  have HZ1 := Lib.hid hz1
  have HZ2 := Lib.hid hz2
  clear hi0 hz0 hz1 hz2
  have hn := hx.len
  have hmx := hx.max
  have hle := hx.le
  have hsh := hx.short
  have hD1 := DoR.start w x A n c xs hx
  obtain ⟨w1, hw1⟩ : ∃ w1, w1 = w.alloc (.cells (oc x).toArray 31) := ⟨_, rfl⟩
  obtain ⟨q1, hq1⟩ : ∃ q1, q1 = w.heap.size := ⟨_, rfl⟩
  have hD1 : DoR w.heap.size q1 w w1 x A n c xs := by rw [hq1, hw1]; exact hD1
  have HP := Lib.hid (at_any x.node A n c xs w1 hD1.nds)
  have HW := Lib.hid (show w1 = w.alloc (.cells #[.int .i64 x.st.1, .int .i64 x.st.2, .int .i64 x.seq, .int .i64 x.kind, .int .i64 x.node.1, .int .i64 x.node.2, .bool x.dir, .int .i64 x.par.1, .int .i64 x.par.2, .string (bs x.nm), .string (bs x.mf)] 31) from hw1)
  have HQ := Lib.hid hq1
  have HD1 := Lib.hid hD1
  have HSh := Lib.hid hsh
  have HOp := Lib.hid hop
  have HX := Lib.hid hx
  obtain ⟨o0, o1, o2, o3, o4, o5, o6, o7, o8, o9, o10⟩ := blk11 hD1.b1
  clear hD1 hw1 hq1 hsh hop hx
  unfold ov sv at *
  obtain ⟨ys, hys⟩ : ∃ ys, ys = doN xs x := ⟨_, rfl⟩
  rw [← hys]
  rw [hfk] at HP
  rw [doN_at hk hfk, if_neg h1] at hys
  have e2 : (x.kind == 2) = true := by rw [h2]; rfl
  have HK2 := Lib.hid h2
  clear h2
  have hk0 : decide ((k : Int) < 0) = false := decide_eq_false (by omega)
  have hkn : (k : Int) < (n : Int) := by omega
  have e1 : (x.kind == 1) = false := by simpa using h1
  have HY := Lib.hid hys
  have HK := Lib.hid hk
  clear hys h1 hfk
  go_enter Try.func44, Try.ntmps44
  go_upto_region 1 with (fail)
  rw [← HW.out, ← HQ.out]
  go_wp2_with fail
  refine HP.out.mono ?_
  rintro e w2 ⟨rfl, hb2⟩
  have HD2 := Lib.hid (HD1.out.after hb2)
  clear o0 o1 o2 o3 o4 o5 o6 o7 o8 o9 o10
  obtain ⟨o0, o1, o2, o3, o4, o5, o6, o7, o8, o9, o10⟩ := blk11 HD2.out.b1
  clear hb2
  obtain ⟨b, off, rfl, hbl, c0, c1, c2, c3, c4, c5, c6, m1, m2⟩ := Nds.at_ HD2.out.nds hk
  have HYs := Lib.hid (show ys = if (turnP xs x xs[k]).2 then xs.set k (turnP xs x xs[k]).1 else xs from HY.out)
  have HOy0 := Lib.hid (And.intro m1 m2)
  have HOz := Lib.hid (turnP_short (xs := xs) (y := xs[k]) HOp.out ⟨m1, m2⟩)
  have HSet := Lib.hid (show xs.set k xs[k] = xs from List.set_getElem_self hk)
  generalize hyk : xs[k] = y at *
  clear hyk m1 m2 HY
  go_upto_region 18 with (fail)
  have hD3 := HD2.out.alloc (.cells (nc y).toArray 38)
  have hB3 := Blk.new w2 38 (nc y).toArray
  have hsz := HD2.out.size
  have hne : q1 < w2.heap.size := HD2.out.b1.lt
  obtain ⟨w3, hw3⟩ : ∃ w3, w3 = w2.alloc (.cells (nc y).toArray 38) := ⟨_, rfl⟩
  obtain ⟨q2, hq2⟩ : ∃ q2, q2 = w2.heap.size := ⟨_, rfl⟩
  rw [← hw3, ← hq2] at hB3
  rw [← hw3] at hD3
  rw [← hq2] at hsz hne
  have hw3' : w3 = w2.alloc (.cells #[.int .i64 y.id.1, .int .i64 y.id.2, .bool y.dir, .int .i64 y.par.1, .int .i64 y.par.2, .string (bs y.nm), .string (bs y.mf)] 38) := hw3
  rw [← hw3', ← hq2]
  have HNe := Lib.hid hne
  have HD3 := Lib.hid hD3
  have HB3 := Lib.hid hB3
  have HSz := Lib.hid hsz
  clear hne hD3 hB3 hsz hw3 hw3' hq2 o0 o1 o2 o3 o4 o5 o6 o7 o8 o9 o10 c0 c1 c2 c3 c4 c5 c6 hbl
  obtain ⟨o0, o1, o2, o3, o4, o5, o6, o7, o8, o9, o10⟩ := blk11 HD3.out.b1
  obtain ⟨c0, c1, c2, c3, c4, c5, c6⟩ := blk7 HB3.out
  obtain ⟨f0, f1, f2, f3, f4, f5, f6⟩ := blkf7 HB3.out
  cases ht : takesB x.par xs with
  | false =>
    have HYt : RowKit.Hid (ys = xs) := by show ys = _; rw [HYs.out]; unfold turnP; simp [HK2.out, ht]
    have HT := Lib.hid ht
    clear ht
    go_upto_region 20 with (fail)
    have l4 := fun x : After w3 => x.cell o7
    have l5 := fun x : After w3 => x.cell o8
    refine wp_region_after (by kernel_rfl) (by kernel_rfl) ?_
    repeat (go_big_quiet_step ((go_at_call 58; exact after_may _ HD3.out.nds HT.out)))
    refine wpQuiet_nil ?_
    clear l4 l5
    rintro _ ⟨x2, rfl⟩
    have HE := Lib.hid (HD3.out.after x2.below)
    go_wp2_with fail
    go_ret
    rw [HYt.out]
    exact Done.same HE.out
  | true =>
    have HMay := Lib.hid (fun (w' : World) (h : Nds w' (some ⟨b, off, none⟩) n c xs) => may_any x.par (some ⟨b, off, none⟩) n c xs w' h)
    have HCh := Lib.hid (fun (w' : World) (h : Nds w' (some ⟨b, off, none⟩) n c xs) => rchain_any x.par (some ⟨b, off, none⟩) n c xs w' h (Nat.le_trans hm (by decide)))
    have HHas := Lib.hid (fun (A' : Option Addr) (c' : Nat) (w' : World) (h : Sts w' A' (chainN xs x.par).length c' (chainN xs x.par)) => has_st x.node A' (chainN xs x.par).length c' (chainN xs x.par) w' h)
    rw [ht] at HMay
    unfold sv at HMay HCh HHas
    have hP0 : turnP xs x y = ({ y with par := x.par, nm := x.nm }, !decide (x.node ∈ chainN xs x.par)) := by unfold turnP; simp [HK2.out, ht]
    generalize decide (x.node ∈ chainN xs x.par) = mem at *
    generalize chainN xs x.par = zs at *
    clear ht
    have HP0 := Lib.hid hP0
    clear hP0
    have HS : RowKit.Hid (∀ w', Below w3.heap.size w3 w' → (w'.cell? ⟨q1, 4, none⟩ = some (.int .i64 x.node.1) ∧ w'.cell? ⟨q1, 5, none⟩ = some (.int .i64 x.node.2)) ∧ w'.cell? ⟨q1, 7, none⟩ = some (.int .i64 x.par.1) ∧ w'.cell? ⟨q1, 8, none⟩ = some (.int .i64 x.par.2)) := Lib.hid (fun w' hb => by
      have hq := HD3.out.b1.lt
      exact ⟨⟨cell_below hb hq o4, cell_below hb hq o5⟩, cell_below hb hq o7, cell_below hb hq o8⟩)
    go_upto_region 20 with (fail)
    go_region_held3 (fun w' => (w'.cell? ⟨q1, 4, none⟩ = some (.int .i64 x.node.1) ∧ w'.cell? ⟨q1, 5, none⟩ = some (.int .i64 x.node.2)) ∧ w'.cell? ⟨q1, 7, none⟩ = some (.int .i64 x.par.1) ∧ w'.cell? ⟨q1, 8, none⟩ = some (.int .i64 x.par.2))
      (with_reducible first | exact HS.out _ HB6.out | exact HS.out _ HB5.out | exact HS.out _ HB4.out | exact HS.out _ (Below.refl _ _).drew | exact HS.out _ (Below.refl _ _))
      (first
        | (go_at_call 58; refine (HMay.out _ HD3.out.drew.nds).mono ?_; rintro e w4 ⟨rfl, hb4⟩; have HB4 := Lib.hid ((Below.refl w3.heap.size w3).drew.trans hb4); clear hb4)
        | (go_at_call 61; refine (HCh.out _ (HD3.out.after HB4.out).nds).mono ?_; rintro e w5 ⟨v5, rfl, hO5, hb5⟩; obtain ⟨A5, cp5, rfl, hN5⟩ := hO5.sts; have HN5 := Lib.hid hN5; have HB5 := Lib.hid (HB4.out.trans (hb5.mono HB4.out.size)); clear hb5 hO5 hN5)
        | (go_at_call 60; refine (HHas.out A5 cp5 _ HN5.out).mono ?_; rintro e w6 ⟨rfl, hb6⟩; have HB6 := Lib.hid (HB5.out.trans (hb6.mono HB5.out.size)); clear hb6))
    have HD6 := Lib.hid (HD3.out.after HB6.out)
    have HBk6 := Lib.hid (Blk.below HB3.out HB6.out HB3.out.lt)
    clear o0 o1 o2 o3 o4 o5 o6 o7 o8 o9 o10 c0 c1 c2 c3 c4 c5 c6 f0 f1 f2 f3 f4 f5 f6 HN5
    cases mem with
    | true =>
      have HYt : RowKit.Hid (ys = xs) := by show ys = _; rw [HYs.out, HP0.out]; simp
      go_wp2_with fail
      go_ret
      rw [HYt.out]
      exact Done.same HD6.out
    | false =>
      obtain ⟨z, hz⟩ : ∃ z : Nd, z = { y with par := x.par, nm := x.nm } := ⟨_, rfl⟩
      have hP : turnP xs x y = (z, true) := by unfold turnP; have := HP0.out; unfold turnP at this; rw [this, hz]; rfl
      have HYt : RowKit.Hid (ys = xs.set k z) := by show ys = _; rw [HYs.out, hP, if_pos rfl]
      have HOy := Lib.hid (show z.nm.length ≤ 9223372036854775807 ∧ z.mf.length ≤ 9223372036854775807 by have := HOz.out; rw [hP] at this; exact this)
      have HZe := Lib.hid hz
      clear hP hz
      obtain ⟨o0, o1, o2, o3, o4, o5, o6, o7, o8, o9, o10⟩ := blk11 HD6.out.b1
      obtain ⟨c0, c1, c2, c3, c4, c5, c6⟩ := blk7 HBk6.out
      obtain ⟨f0, f1, f2, f3, f4, f5, f6⟩ := blkf7 HBk6.out
      have hne1 : q1 ≠ q2 := Nat.ne_of_lt HNe.out
      go_upto_region 30 with (fail)
      have hB7 : Blk (((w6.setCell ⟨q2, 3, none⟩ (.int .i64 x.par.1)).setCell ⟨q2, 4, none⟩ (.int .i64 x.par.2)).setCell ⟨q2, 5, none⟩ (.string (bs x.nm))) q2 38 (nc z).toArray := by
        have := (Blk.set_ (Blk.set_ (Blk.set_ HBk6.out 3 (.int .i64 x.par.1)) 4 (.int .i64 x.par.2)) 5 (.string (bs x.nm)))
        rw [HZe.out]
        simpa [nc] using this
      have hb7 : Below w.heap.size w (((w6.setCell ⟨q2, 3, none⟩ (.int .i64 x.par.1)).setCell ⟨q2, 4, none⟩ (.int .i64 x.par.2)).setCell ⟨q2, 5, none⟩ (.string (bs x.nm))) := (Below.setCell (Below.setCell (Below.setCell HD6.out.below (p := ⟨q2, 3, none⟩) HSz.out (.int .i64 x.par.1)) (p := ⟨q2, 4, none⟩) HSz.out (.int .i64 x.par.2)) (p := ⟨q2, 5, none⟩) HSz.out (.string (bs x.nm)))
      have hq7 := (Blk.far (Blk.far (Blk.far HD6.out.b1 (p := ⟨q2, 3, none⟩) (Nat.ne_of_lt HNe.out) (.int .i64 x.par.1)) (p := ⟨q2, 4, none⟩) (Nat.ne_of_lt HNe.out) (.int .i64 x.par.2)) (p := ⟨q2, 5, none⟩) (Nat.ne_of_lt HNe.out) (.string (bs x.nm)))
      obtain ⟨w7, hw7⟩ : ∃ w7, w7 = (((w6.setCell ⟨q2, 3, none⟩ (.int .i64 x.par.1)).setCell ⟨q2, 4, none⟩ (.int .i64 x.par.2)).setCell ⟨q2, 5, none⟩ (.string (bs x.nm))) := ⟨_, rfl⟩
      rw [← hw7] at hB7 hb7 hq7
      rw [← hw7]
      have HD7 := Lib.hid (show DoR w.heap.size q1 w w7 x (some ⟨b, off, none⟩) n c xs from ⟨hq7, HX.out.below hb7, hb7, HD3.out.h1⟩)
      have HB7 := Lib.hid hB7
      clear hw7 hb7 hq7 hB7 c0 c1 c2 c3 c4 c5 c6 f0 f1 f2 f3 f4 f5 f6 o0 o1 o2 o3 o4 o5 o6 o7 o8 o9 o10
      obtain ⟨c0, c1, c2, c3, c4, c5, c6⟩ := blk7 HB7.out
      have HE := HD7
      have HBe := HB7
      clear hmx
      by_cases hcn : k + 1 = c
      · subst hcn
        obtain rfl : n = k + 1 := by omega
        have hdn : xs.drop (k + 1) = [] := List.drop_eq_nil_of_le (by omega)
        have HR0 := Lib.hid (Row.nil_ (B := w7.heap.size) (w0 := w7) (Below.refl _ _) (Nat.le_refl _))
        have HS0 := Lib.hid (src_nds_take HE.out.nds (show k ≤ k + 1 by omega))
        go_wp2_with (at_builtin; refine wpList_append_C _ rfl (.tmp 114) (.tmp 117) 32 32 rfl 38 i0 (.agg #[.int .i64 0, .int .i64 0, .bool false, .int .i64 0, .int .i64 0, .string ⟨#[]⟩, .string ⟨#[]⟩]) 7 Try.underlying32 HI.out HZ0.out HZ1.out rfl (by decide) w7.heap.size _ 0 [] rfl HR0.out.own (.slice (some ⟨b, off, none⟩) k (k + 1)) rfl k (ncs (xs.take k)) ?c1 ?c3 ?c4 ?c5 ?_)
        case c1 => exact HS0.out
        case c3 => unfold maxLen; omega
        case c4 => rw [HZ2.out]; omega
        case c5 => exact Nat.le_refl _
        intro v6 w6 ho6 hg6 hat6
        obtain ⟨A6, cp6, rfl⟩ := OwnC.isSlice ho6
        have HR6 : RowKit.Hid (Row w7.heap.size w7 w6 (.slice A6 k cp6) (xs.take k)) := Lib.hid (HR0.out.more (ys := []) (zs := xs.take k) (m := k) (by rw [List.length_take]; omega) (by rw [show ([] : List Nd).length + k = k from Nat.zero_add _]; exact ho6) hg6)
        have HB6 := Lib.hid (Blk.below HBe.out HR6.out.below HBe.out.lt)
        clear ho6 hg6 hat6 HR0 HS0 c0 c1 c2 c3 c4 c5 c6
        obtain ⟨c0, c1, c2, c3, c4, c5, c6⟩ := blk7 HB6.out
        have HR7 := Lib.hid (HR6.out.alloc (.cells (nc z).toArray 38))
        have HS7 := Lib.hid (src_nd_new w6 z 1)
        have hl6 : (xs.take k).length = k := by rw [List.length_take]; omega
        go_wp2_with (at_builtin; refine wpList_append_C _ rfl (.tmp 119) (.tmp 121) 32 32 rfl 38 i0 (.agg #[.int .i64 0, .int .i64 0, .bool false, .int .i64 0, .int .i64 0, .string ⟨#[]⟩, .string ⟨#[]⟩]) 7 Try.underlying32 HI.out HZ0.out HZ1.out rfl (by decide) w7.heap.size _ (xs.take k).length (ncs (xs.take k)) rfl HR7.out.own (.slice (some ⟨w6.heap.size, 0, none⟩) 1 1) rfl 1 (ncs [z]) ?c1 ?c3 ?c4 ?c5 ?_)
        case c1 => exact HS7.out
        case c3 => unfold maxLen; omega
        case c4 => rw [HZ2.out]; omega
        case c5 => exact HR7.out.le
        intro v8 w8 ho8 hg8 hat8
        obtain ⟨A8, cp8, rfl⟩ := OwnC.isSlice ho8
        have HR8 : RowKit.Hid (Row w7.heap.size w7 w8 (.slice A8 (k + 1) cp8) (xs.take k ++ [z])) := Lib.hid (HR7.out.more (zs := [z]) (m := 1) rfl (by rw [hl6]; exact ho8) hg8)
        have HE8 := Lib.hid (HE.out.after HR8.out.below)
        have hl8 : (xs.take k ++ [z]).length = k + 1 := by rw [List.length_append, hl6]; rfl
        clear ho8 hg8 hat8 HR7 HS7 HR6 HB6 c0 c1 c2 c3 c4 c5 c6
        have HS8 := Lib.hid (show Src Try.prog 7 32 (.slice (some ⟨b, off, none⟩) 0 0) 0 (ncs ([] : List Nd)) w8 from src_nds_none)
        go_wp2_with (at_builtin; refine wpList_append_C _ rfl (.tmp 123) (.tmp 127) 32 32 rfl 38 i0 (.agg #[.int .i64 0, .int .i64 0, .bool false, .int .i64 0, .int .i64 0, .string ⟨#[]⟩, .string ⟨#[]⟩]) 7 Try.underlying32 HI.out HZ0.out HZ1.out rfl (by decide) w7.heap.size _ (xs.take k ++ [z]).length (ncs (xs.take k ++ [z])) rfl HR8.out.own (.slice (some ⟨b, off, none⟩) 0 0) rfl 0 (ncs (([] : List Nd))) ?c1 ?c3 ?c4 ?c5 ?_)
        case c1 => exact HS8.out
        case c3 => unfold maxLen; omega
        case c4 => rw [HZ2.out]; omega
        case c5 => exact HR8.out.le
        intro v9 w9 ho9 hg9 hat9
        have HR9 := Lib.hid (HR8.out.more (zs := ([] : List Nd)) (m := 0) (by simp) (by rw [hl8]; exact ho9) hg9)
        clear ho9 hg9 hat9 HR8 HS8 HE8
        go_wp2_with fail
        go_ret
        have HF : RowKit.Hid (ys = (xs.take k ++ [z]) ++ []) := Lib.hid (by rw [HYt.out, ← set_split xs k z HK.out]; rw [hdn])
        rw [HF.out]
        have hsf : Short ((xs.take k ++ [z]) ++ []) := by rw [← HF.out, HYt.out]; exact set_short HSh.out HOy.out k
        exact Done.own HR9.out.own hsf (HE.out.below.trans (HR9.out.below.mono HE.out.size))
      · have hcn1 : ¬ c = k + 1 := fun e => hcn e.symm
        have HR0 := Lib.hid (Row.nil_ (B := w7.heap.size) (w0 := w7) (Below.refl _ _) (Nat.le_refl _))
        have HS0 := Lib.hid (src_nds_take HE.out.nds (show k ≤ n by omega))
        go_wp2_with (at_builtin; refine wpList_append_C _ rfl (.tmp 114) (.tmp 117) 32 32 rfl 38 i0 (.agg #[.int .i64 0, .int .i64 0, .bool false, .int .i64 0, .int .i64 0, .string ⟨#[]⟩, .string ⟨#[]⟩]) 7 Try.underlying32 HI.out HZ0.out HZ1.out rfl (by decide) w7.heap.size _ 0 [] rfl HR0.out.own (.slice (some ⟨b, off, none⟩) k c) rfl k (ncs (xs.take k)) ?c1 ?c3 ?c4 ?c5 ?_)
        case c1 => exact HS0.out
        case c3 => unfold maxLen; omega
        case c4 => rw [HZ2.out]; omega
        case c5 => exact Nat.le_refl _
        intro v6 w6 ho6 hg6 hat6
        obtain ⟨A6, cp6, rfl⟩ := OwnC.isSlice ho6
        have HR6 : RowKit.Hid (Row w7.heap.size w7 w6 (.slice A6 k cp6) (xs.take k)) := Lib.hid (HR0.out.more (ys := []) (zs := xs.take k) (m := k) (by rw [List.length_take]; omega) (by rw [show ([] : List Nd).length + k = k from Nat.zero_add _]; exact ho6) hg6)
        have HB6 := Lib.hid (Blk.below HBe.out HR6.out.below HBe.out.lt)
        clear ho6 hg6 hat6 HR0 HS0 c0 c1 c2 c3 c4 c5 c6
        obtain ⟨c0, c1, c2, c3, c4, c5, c6⟩ := blk7 HB6.out
        have HR7 := Lib.hid (HR6.out.alloc (.cells (nc z).toArray 38))
        have HS7 := Lib.hid (src_nd_new w6 z 1)
        have hl6 : (xs.take k).length = k := by rw [List.length_take]; omega
        go_wp2_with (at_builtin; refine wpList_append_C _ rfl (.tmp 119) (.tmp 121) 32 32 rfl 38 i0 (.agg #[.int .i64 0, .int .i64 0, .bool false, .int .i64 0, .int .i64 0, .string ⟨#[]⟩, .string ⟨#[]⟩]) 7 Try.underlying32 HI.out HZ0.out HZ1.out rfl (by decide) w7.heap.size _ (xs.take k).length (ncs (xs.take k)) rfl HR7.out.own (.slice (some ⟨w6.heap.size, 0, none⟩) 1 1) rfl 1 (ncs [z]) ?c1 ?c3 ?c4 ?c5 ?_)
        case c1 => exact HS7.out
        case c3 => unfold maxLen; omega
        case c4 => rw [HZ2.out]; omega
        case c5 => exact HR7.out.le
        intro v8 w8 ho8 hg8 hat8
        obtain ⟨A8, cp8, rfl⟩ := OwnC.isSlice ho8
        have HR8 : RowKit.Hid (Row w7.heap.size w7 w8 (.slice A8 (k + 1) cp8) (xs.take k ++ [z])) := Lib.hid (HR7.out.more (zs := [z]) (m := 1) rfl (by rw [hl6]; exact ho8) hg8)
        have HE8 := Lib.hid (HE.out.after HR8.out.below)
        have hl8 : (xs.take k ++ [z]).length = k + 1 := by rw [List.length_append, hl6]; rfl
        clear ho8 hg8 hat8 HR7 HS7 HR6 HB6 c0 c1 c2 c3 c4 c5 c6
        have HS8 := Lib.hid (Src.nds (Nds.drop_ HE8.out.nds (show k + 1 ≤ n by omega)))
        go_wp2_with (at_builtin; refine wpList_append_C _ rfl (.tmp 123) (.tmp 127) 32 32 rfl 38 i0 (.agg #[.int .i64 0, .int .i64 0, .bool false, .int .i64 0, .int .i64 0, .string ⟨#[]⟩, .string ⟨#[]⟩]) 7 Try.underlying32 HI.out HZ0.out HZ1.out rfl (by decide) w7.heap.size _ (xs.take k ++ [z]).length (ncs (xs.take k ++ [z])) rfl HR8.out.own (.slice (some ⟨b, off + (k + 1) * 7, none⟩) (n - (k + 1)) (c - (k + 1))) rfl (n - (k + 1)) (ncs (xs.drop (k + 1))) ?c1 ?c3 ?c4 ?c5 ?_)
        case c1 => exact HS8.out
        case c3 => unfold maxLen; omega
        case c4 => rw [HZ2.out]; omega
        case c5 => exact HR8.out.le
        intro v9 w9 ho9 hg9 hat9
        have HR9 := Lib.hid (HR8.out.more (zs := xs.drop (k + 1)) (m := (n - (k + 1))) (by simp; omega) (by rw [hl8]; exact ho9) hg9)
        clear ho9 hg9 hat9 HR8 HS8 HE8
        go_wp2_with fail
        go_ret
        have HF : RowKit.Hid (ys = (xs.take k ++ [z]) ++ xs.drop (k + 1)) := Lib.hid (by rw [HYt.out, ← set_split xs k z HK.out])
        rw [HF.out]
        have hsf : Short ((xs.take k ++ [z]) ++ xs.drop (k + 1)) := by rw [← HF.out, HYt.out]; exact set_short HSh.out HOy.out k
        exact Done.own HR9.out.own hsf (HE.out.below.trans (HR9.out.below.mono HE.out.size))
/-- the document's Do -/
theorem rdo_any (x : TOp) (A : Option Addr) (n c : Nat) (xs : List Nd) (w : World) (hx : Nds w A n c xs) (hop : OpS x) (hm : n ≤ 100000) :
    Calls Try.prog 44 #[.slice A n c, ov x] w (Done w (doN xs x)) := by
  rcases firstI_cases (isId x.node) xs with ⟨k, hk, hfk, _⟩ | ⟨hfk, _⟩
  · by_cases h1 : x.kind = 1
    · exact rdo_make x A n c xs w hx hop hm (.inr h1)
    by_cases h2 : x.kind = 2
    · exact rdo_turn2 x A n c xs w hx hop hm k hk hfk h1 h2
    by_cases h3 : x.kind = 3
    · exact rdo_turn3 x A n c xs w hx hop hm k hk hfk h1 h3
    by_cases h4 : x.kind = 4
    · exact rdo_turn4 x A n c xs w hx hop hm k hk hfk h1 h4
    exact rdo_turn5 x A n c xs w hx hop hm k hk hfk h1 h2 h3 h4
  · exact rdo_make x A n c xs w hx hop hm (.inl hfk)
end Go.Proofs.Ytaglomhmnoldlaa
