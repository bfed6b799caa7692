/- The walk of TreeDoes. -/
import Derived.Test.YthaekoeekpofpaaX4
namespace Go.Proofs.Ythaekoeekpofpaa
open Go.RowKit
attribute [local go_sem] bs_size bs_getElem bs_list bs_append

theorem Ops.one {w : World} {x : TOp} (hs : OpS x) : Ops (w.alloc (.cells (oc x).toArray 32)) (some ⟨w.heap.size, 0, none⟩) 1 1 [x] := by
  have h := Ops.of_blk (l := [x]) (w := w.alloc (.cells (oc x).toArray 32)) (g := w.heap.size) (by simpa [ocs] using Blk.new w 32 (oc x).toArray) (fun y hy => by rw [List.mem_singleton.1 hy]; exact hs) (by simp)
  exact h

set_option maxRecDepth 100000 in
set_option maxHeartbeats 3200000 in
theorem law_does (A : Option Addr) (n c : Nat) (xs : List Nd) (x : TOp) (w : World) (hx : Nds w A n c xs) (hop : OpS x) :
    Calls Try.prog 4 #[.slice A n c, ov x] w fun e w' => e = .returned (.bool true) ∧ Below w.heap.size w w' := by
  obtain ⟨i0, hi0, hz0, hz1, hz2⟩ := info_parts info37
  have HI := Lib.hid hi0
  have HZ0 := Lib.hid hz0
  have HZ1 := Lib.hid hz1
  have HZ2 := Lib.hid hz2
  clear hi0 hz0 hz1 hz2
  have hn := hx.len
  have hsh := hx.short
  have HSh := Lib.hid hsh
  have HShD := Lib.hid (doN_short hsh hop)
  have hD1 := DoR.start w x A n c xs hx
  obtain ⟨w1, hw1⟩ : ∃ w1, w1 = w.alloc (.cells (oc x).toArray 32) := ⟨_, rfl⟩
  obtain ⟨q1, hq1⟩ : ∃ q1, q1 = w.heap.size := ⟨_, rfl⟩
  have hD1 : DoR w.heap.size q1 w w1 x A n c xs := by rw [hq1, hw1]; exact hD1
  have HW := Lib.hid (show w1 = w.alloc (.cells #[.int .i64 x.st.1, .int .i64 x.st.2, .int .i64 x.seq, .int .i64 x.kind, .int .i64 x.node.1, .int .i64 x.node.2, .bool x.dir, .int .i64 x.par.1, .int .i64 x.par.2, .string (bs x.nm), .string (bs x.mf)] 32) from hw1)
  have HQ := Lib.hid hq1
  have HD1 := Lib.hid hD1
  have HOp := Lib.hid hop
  have HS := Lib.hid (some_is A n c xs w1 hD1.nds)
  obtain ⟨o0, o1, o2, o3, o4, o5, o6, o7, o8, o9, o10⟩ := blk11 hD1.b1
  have HLe := Lib.hid (fun h : someB xs = true => someB_le h)
  clear hD1 hw1 hq1 hsh hop hx
  unfold ov
  cases hsb : someB xs with
  | false =>
    rw [hsb] at HS
    clear hsb
    go_enter Try.func4, Try.ntmps4
    go_upto_region 1 with (fail)
    rw [← HW.out, ← HQ.out]
    go_wp2_with fail
    refine HS.out.mono ?_
    rintro e w2 ⟨rfl, hb2⟩
    have HD2 := Lib.hid (HD1.out.after hb2)
    clear hb2
    go_wp2_with fail
    refine (awake_any w2).mono ?_
    rintro e w3 ⟨rfl, hb3⟩
    have HD3 := Lib.hid (HD2.out.after hb3)
    clear hb3
    go_wp2_with fail
    go_ret
    exact ⟨rfl, HD3.out.below⟩
  | true =>
    rw [hsb] at HS
    have HM : RowKit.Hid (n ≤ 150) := Lib.hid (by rw [← hn]; exact HLe.out hsb)
    clear hsb
    cases hfb : fewB [x] with
    | false =>
      have HFb := Lib.hid hfb
      clear hfb
      go_enter Try.func4, Try.ntmps4
      go_upto_region 1 with (fail)
      rw [← HW.out, ← HQ.out]
      go_wp2_with fail
      refine HS.out.mono ?_
      rintro e w2 ⟨rfl, hb2⟩
      have HD2 := Lib.hid (HD1.out.after hb2)
      clear hb2 o0 o1 o2 o3 o4 o5 o6 o7 o8 o9 o10
      obtain ⟨o0, o1, o2, o3, o4, o5, o6, o7, o8, o9, o10⟩ := blk11 HD2.out.b1
      have HF := Lib.hid (few_is _ 1 1 [x] _ (Ops.one (w := w2) HOp.out))
      rw [HFb.out] at HF
      unfold oc at HF
      go_wp2_with fail
      refine HF.out.mono ?_
      rintro e w3 ⟨rfl, hb3⟩
      have HD3 := Lib.hid ((HD2.out.alloc (.cells (oc x).toArray 32)).after hb3)
      clear hb3
      go_wp2_with fail
      refine (awake_any w3).mono ?_
      rintro e w4 ⟨rfl, hb4⟩
      have HD4 := Lib.hid (HD3.out.after hb4)
      clear hb4
      go_wp2_with fail
      go_ret
      exact ⟨rfl, HD4.out.below⟩
    | true =>
      have HFb := Lib.hid hfb
      clear hfb
      go_enter Try.func4, Try.ntmps4
      go_upto_region 1 with (fail)
      rw [← HW.out, ← HQ.out]
      go_wp2_with fail
      refine HS.out.mono ?_
      rintro e w2 ⟨rfl, hb2⟩
      have HD2 := Lib.hid (HD1.out.after hb2)
      clear hb2 o0 o1 o2 o3 o4 o5 o6 o7 o8 o9 o10
      obtain ⟨o0, o1, o2, o3, o4, o5, o6, o7, o8, o9, o10⟩ := blk11 HD2.out.b1
      have HF := Lib.hid (few_is _ 1 1 [x] _ (Ops.one (w := w2) HOp.out))
      rw [HFb.out] at HF
      unfold oc at HF
      go_wp2_with fail
      refine HF.out.mono ?_
      rintro e w3 ⟨rfl, hb3⟩
      have HD3 := Lib.hid ((HD2.out.alloc (.cells (oc x).toArray 32)).after hb3)
      clear hb3 o0 o1 o2 o3 o4 o5 o6 o7 o8 o9 o10
      have HO : RowKit.Hid (OwnC (w3.alloc (.cells #[] 37)) w3.heap.size 7 (.slice (some ⟨w3.heap.size, 0, none⟩) 0 0) 0 []) := Lib.hid
        ⟨rfl, .inr ⟨w3.heap.size, 0, rfl, Nat.le_refl _, by simp, Nat.le_refl _, by decide, fun j hj => by omega, fun j hj => by omega, fun j u hu => by simp at hu⟩⟩
      have HD3a := Lib.hid (HD3.out.alloc (.cells #[] 37))
      have HSrc := Lib.hid (Src.nds HD3a.out.nds)
      have hm150 := HM.out
      go_wp2_with (at_builtin; refine wpList_append_C _ rfl (.tmp 16) (.tmp 17) 25 25 rfl 37 i0 (.agg #[.int .i64 0, .int .i64 0, .bool false, .int .i64 0, .int .i64 0, .string ⟨#[]⟩, .string ⟨#[]⟩]) 7 Try.underlying25 HI.out HZ0.out HZ1.out rfl (by decide) w3.heap.size _ 0 [] rfl HO.out (.slice A n c) rfl n (ncs xs) ?c1 ?c3 ?c4 ?c5 ?_)
      case c1 => exact HSrc.out
      case c3 => unfold maxLen; omega
      case c4 => rw [HZ2.out]; omega
      case c5 => simp
      intro v4 w4 ho4 hg4 hat4
      have hO4 : Own w4 w3.heap.size v4 xs := by unfold Own; rw [hn]; simpa using ho4
      have HD4 := Lib.hid (HD3.out.after (gb_own (((Below.refl w3.heap.size w3).alloc (Nat.le_refl _) (.cells #[] 37))) (Nat.le_refl _) (by simp) HO.out hg4))
      obtain ⟨A4, c4, rfl, hN4⟩ := hO4.nds HSh.out
      rw [hn] at hN4
      rw [hn]
      have HN4 := Lib.hid hN4
      clear ho4 hg4 hat4 hO4 hN4 HSrc HO HD3a
      have HQs : RowKit.Hid (∀ w', Blk w' q1 32 (oc x).toArray → w'.cell? ⟨q1, 0, none⟩ = some (.int .i64 x.st.1) ∧ w'.cell? ⟨q1, 1, none⟩ = some (.int .i64 x.st.2) ∧ w'.cell? ⟨q1, 2, none⟩ = some (.int .i64 x.seq) ∧ w'.cell? ⟨q1, 3, none⟩ = some (.int .i64 x.kind) ∧ w'.cell? ⟨q1, 4, none⟩ = some (.int .i64 x.node.1) ∧ w'.cell? ⟨q1, 5, none⟩ = some (.int .i64 x.node.2) ∧ w'.cell? ⟨q1, 6, none⟩ = some (.bool x.dir) ∧ w'.cell? ⟨q1, 7, none⟩ = some (.int .i64 x.par.1) ∧ w'.cell? ⟨q1, 8, none⟩ = some (.int .i64 x.par.2) ∧ w'.cell? ⟨q1, 9, none⟩ = some (.string (bs x.nm)) ∧ w'.cell? ⟨q1, 10, none⟩ = some (.string (bs x.mf))) := Lib.hid (fun w' h => blk11 h)
      have HDo := Lib.hid (fun (A' : Option Addr) (c' : Nat) (w' : World) (h : Nds w' A' n c' xs) => do_any x A' n c' xs w' h HOp.out (Nat.le_trans HM.out (by decide)))
      have HRDo := Lib.hid (fun (A' : Option Addr) (c' : Nat) (w' : World) (h : Nds w' A' n c' xs) => rdo_any x A' n c' xs w' h HOp.out (Nat.le_trans HM.out (by decide)))
      unfold ov at HDo HRDo
      generalize doN xs x = ys at *
      go_upto_region 4 with (fail)
      go_region_held3 (fun w' => w'.cell? ⟨q1, 0, none⟩ = some (.int .i64 x.st.1) ∧ w'.cell? ⟨q1, 1, none⟩ = some (.int .i64 x.st.2) ∧ w'.cell? ⟨q1, 2, none⟩ = some (.int .i64 x.seq) ∧ w'.cell? ⟨q1, 3, none⟩ = some (.int .i64 x.kind) ∧ w'.cell? ⟨q1, 4, none⟩ = some (.int .i64 x.node.1) ∧ w'.cell? ⟨q1, 5, none⟩ = some (.int .i64 x.node.2) ∧ w'.cell? ⟨q1, 6, none⟩ = some (.bool x.dir) ∧ w'.cell? ⟨q1, 7, none⟩ = some (.int .i64 x.par.1) ∧ w'.cell? ⟨q1, 8, none⟩ = some (.int .i64 x.par.2) ∧ w'.cell? ⟨q1, 9, none⟩ = some (.string (bs x.nm)) ∧ w'.cell? ⟨q1, 10, none⟩ = some (.string (bs x.mf)))
        (with_reducible first | exact HQs.out _ HD9.out.b1 | exact HQs.out _ HD8.out.b1 | exact HQs.out _ HD7.out.b1 | exact HQs.out _ HD6.out.b1 | exact HQs.out _ HD5.out.b1 | exact HQs.out _ HD4.out.drew.b1 | exact HQs.out _ HD4.out.b1)
        (first
          | (go_at_call 17; (with_reducible refine (HDo.out A4 c4 _ (HN4.out.below (Below.refl _ _).drew)).mono ?_); rintro e w5 ⟨A5, c5, rfl, hN5, hb5⟩; have HN5 := Lib.hid hN5; have HD5 := Lib.hid (HD4.out.drew.after hb5); have HN4b := Lib.hid ((HN4.out.below (Below.refl _ _).drew).below hb5))
          | (go_at_call 18; (with_reducible refine (HRDo.out A c _ HD5.out.nds).mono ?_); rintro e w6 ⟨A6, c6, rfl, hN6, hb6⟩; have HN6 := Lib.hid hN6; have HD6 := Lib.hid (HD5.out.after hb6); have HN5b := Lib.hid (HN5.out.below hb6); have HN4c := Lib.hid (HN4b.out.below hb6))
          | (go_at_call 12; (with_reducible refine (same_any A5 A6 _ c5 c6 ys _ HN5b.out HN6.out).mono ?_); rintro e w7 ⟨rfl, hb7⟩; have HD7 := Lib.hid (HD6.out.after hb7); have HN4d := Lib.hid (HN4c.out.below hb7))
          | (go_at_call 12; (with_reducible refine (same_any A4 A _ c4 c xs _ HN4d.out HD7.out.nds).mono ?_); rintro e w8 ⟨rfl, hb8⟩; have HD8 := Lib.hid (HD7.out.after hb8))
          | (go_at_call 15; (with_reducible refine (awake_any _).mono ?_); rintro e w9 ⟨rfl, hb9⟩; have HD9 := Lib.hid (HD8.out.after hb9)))
      all_goals go_wp2_with fail
      all_goals go_ret
      all_goals exact ⟨rfl, HD9.out.below⟩
end Go.Proofs.Ythaekoeekpofpaa
