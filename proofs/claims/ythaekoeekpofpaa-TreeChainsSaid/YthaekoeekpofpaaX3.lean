/- The walk of TreeChains. -/
import Derived.Test.YthaekoeekpofpaaX1
namespace Go.Proofs.Ythaekoeekpofpaa
open Go.RowKit
attribute [local go_sem] bs_size bs_getElem bs_list bs_append

/-- a stamp's cells, a node in each of two blocks -/
structure SCN (q p1 p2 : Nat) (s : St) (y : Nd) (w : World) : Prop where
  st : w.cell? ⟨q, 0, none⟩ = some (.int .i64 s.1) ∧ w.cell? ⟨q, 1, none⟩ = some (.int .i64 s.2)
  n1 : Blk w p1 37 (nc y).toArray
  n2 : Blk w p2 37 (nc y).toArray
theorem SCN.after {q p1 p2 : Nat} {s : St} {y : Nd} {w w' : World} (h : SCN q p1 p2 s y w) (hb : Below w.heap.size w w') : SCN q p1 p2 s y w' :=
  ⟨⟨cell_below hb (cell_lt h.st.1) h.st.1, cell_below hb (cell_lt h.st.2) h.st.2⟩, h.n1.below hb h.n1.lt, h.n2.below hb h.n2.lt⟩
theorem SCN.drew {q p1 p2 : Nat} {s : St} {y : Nd} {w : World} (h : SCN q p1 p2 s y w) : SCN q p1 p2 s y w.drew := h.after (Below.refl _ _).drew
def SCNs (q p1 p2 : Nat) (s : St) (y : Nd) (w : World) : Prop := (w.cell? ⟨q, 0, none⟩ = some (.int .i64 s.1) ∧ w.cell? ⟨q, 1, none⟩ = some (.int .i64 s.2)) ∧
  (w.cell? ⟨p1, 0, none⟩ = some (.int .i64 y.id.1) ∧ w.cell? ⟨p1, 1, none⟩ = some (.int .i64 y.id.2) ∧ w.cell? ⟨p1, 2, none⟩ = some (.bool y.dir) ∧ w.cell? ⟨p1, 3, none⟩ = some (.int .i64 y.par.1) ∧ w.cell? ⟨p1, 4, none⟩ = some (.int .i64 y.par.2) ∧ w.cell? ⟨p1, 5, none⟩ = some (.string (bs y.nm)) ∧ w.cell? ⟨p1, 6, none⟩ = some (.string (bs y.mf))) ∧
  (w.cell? ⟨p2, 0, none⟩ = some (.int .i64 y.id.1) ∧ w.cell? ⟨p2, 1, none⟩ = some (.int .i64 y.id.2) ∧ w.cell? ⟨p2, 2, none⟩ = some (.bool y.dir) ∧ w.cell? ⟨p2, 3, none⟩ = some (.int .i64 y.par.1) ∧ w.cell? ⟨p2, 4, none⟩ = some (.int .i64 y.par.2) ∧ w.cell? ⟨p2, 5, none⟩ = some (.string (bs y.nm)) ∧ w.cell? ⟨p2, 6, none⟩ = some (.string (bs y.mf)))
theorem SCN.all {q p1 p2 : Nat} {s : St} {y : Nd} {w : World} (h : SCN q p1 p2 s y w) : SCNs q p1 p2 s y w := ⟨h.st, blk7 h.n1, blk7 h.n2⟩

set_option maxRecDepth 100000 in
set_option maxHeartbeats 3200000 in
theorem law_chains (A : Option Addr) (n c : Nat) (xs : List Nd) (s : St) (w : World) (hx : Nds w A n c xs) :
    Calls Try.prog 9 #[.slice A n c, sv s] w fun e w' => e = .returned (.bool true) ∧ Below w.heap.size w w' := by
  have hA := AtS.start w s A n c xs hx
  obtain ⟨w1, hw1⟩ : ∃ w1, w1 = w.alloc (.cells #[.int .i64 s.1, .int .i64 s.2] 30) := ⟨_, rfl⟩
  obtain ⟨q, hq⟩ : ∃ q, q = w.heap.size := ⟨_, rfl⟩
  have hA : AtS w.heap.size q w w1 s A n c xs := by rw [hq, hw1]; exact hA
  have HW := Lib.hid hw1
  have HQ := Lib.hid hq
  have HA := Lib.hid hA
  have hshk : Short (kidsN s xs) := fun y hy => hx.short y (List.mem_filter.1 hy).1
  have HSh := Lib.hid hshk
  clear hw1 hq hA hx hshk
  unfold sv
  have HFd := Lib.hid (fun (w' : World) (h : Nds w' A n c xs) => find_any s A n c xs w' h)
  have HRf := Lib.hid (fun (w' : World) (h : Nds w' A n c xs) => rfind_any s A n c xs w' h)
  obtain ⟨y, hy⟩ : ∃ y, y = findN s xs := ⟨_, rfl⟩
  rw [← hy] at HFd HRf
  have he := run_eql_nd y
  have HK := Lib.hid (fun (w' : World) (h : Nds w' A n c xs) (hm : n ≤ 1000000) => kids_any s A n c xs w' h hm)
  have HRK := Lib.hid (fun (w' : World) (h : Nds w' A n c xs) (hm : n ≤ 1000000) => rkids_any s A n c xs w' h hm)
  have HC := Lib.hid (fun (w' : World) (h : Nds w' A n c xs) (hm : n ≤ 1000000) => chain_any s A n c xs w' h hm)
  have HRC := Lib.hid (fun (w' : World) (h : Nds w' A n c xs) (hm : n ≤ 1000000) => rchain_any s A n c xs w' h hm)
  obtain ⟨ys, hys⟩ : ∃ ys, ys = kidsN s xs := ⟨_, rfl⟩
  rw [← hys] at HK HRK HSh
  obtain ⟨zs, hzs⟩ : ∃ zs, zs = chainN xs s := ⟨_, rfl⟩
  rw [← hzs] at HC HRC
  clear hys hzs
  unfold sv at HK HRK HC HRC
  unfold sv nv at HFd HRf
  unfold nv at he
  clear hy
  go_enter Try.func9, Try.ntmps9
  go_upto_region 1 with (fail)
  rw [← HW.out, ← HQ.out]
  go_wp2_with fail
  refine (some_any A n c xs w1 HA.out.nds).mono ?_
  rintro e w2 ⟨⟨r, rfl, hr⟩, hb2⟩
  have HR150 := Lib.hid hr
  clear hr
  have HA2 := Lib.hid (HA.out.after hb2)
  obtain ⟨q0, q1⟩ := HA2.out.cells
  clear hb2
  cases r with
  | false =>
    go_wp2_with fail
    refine (HA2.out.awake).mono ?_
    rintro e w3 ⟨rfl, hb3⟩
    have HB3 := Lib.hid hb3
    clear hb3
    go_wp2_with fail
    go_ret
    exact ⟨rfl, HB3.out⟩
  | true =>
    have hm : RowKit.Hid (n ≤ 1000000) := Lib.hid (Nat.le_trans (HR150.out rfl) (by decide))
    go_wp2_with fail
    refine (HFd.out w2 HA2.out.nds).mono ?_
    rintro e w3 ⟨rfl, hb3⟩
    have hA3 := (HA2.out.after hb3).alloc (.cells (nc y).toArray 37)
    have hN1 := Blk.new w3 37 (nc y).toArray
    obtain ⟨w4, hw4⟩ : ∃ w4, w4 = w3.alloc (.cells #[.int .i64 y.id.1, .int .i64 y.id.2, .bool y.dir, .int .i64 y.par.1, .int .i64 y.par.2, .string (bs y.nm), .string (bs y.mf)] 37) := ⟨_, rfl⟩
    obtain ⟨p1, hp1⟩ : ∃ p1, p1 = w3.heap.size := ⟨_, rfl⟩
    have HA4 : RowKit.Hid (AtS w.heap.size q w w4 s A n c xs) := by rw [hw4]; exact hA3
    have HN1 : RowKit.Hid (Blk w4 p1 37 (nc y).toArray) := by rw [hw4, hp1]; exact hN1
    have HW4 := Lib.hid hw4
    have HP1 := Lib.hid hp1
    clear hb3 hA3 hN1 hw4 hp1 q0 q1
    obtain ⟨q0, q1⟩ := HA4.out.cells
    go_upto_region 4 with (fail)
    rw [← HW4.out, ← HP1.out]
    go_wp2_with fail
    refine (HRf.out w4 HA4.out.nds).mono ?_
    rintro e w5 ⟨rfl, hb5⟩
    have hA5 := (HA4.out.after hb5).alloc (.cells (nc y).toArray 37)
    have hN1 := (HN1.out.below hb5 HN1.out.lt).alloc (.cells (nc y).toArray 37)
    have hN2 := Blk.new w5 37 (nc y).toArray
    obtain ⟨w6, hw6⟩ : ∃ w6, w6 = w5.alloc (.cells #[.int .i64 y.id.1, .int .i64 y.id.2, .bool y.dir, .int .i64 y.par.1, .int .i64 y.par.2, .string (bs y.nm), .string (bs y.mf)] 37) := ⟨_, rfl⟩
    obtain ⟨p2, hp2⟩ : ∃ p2, p2 = w5.heap.size := ⟨_, rfl⟩
    have HA6 : RowKit.Hid (AtS w.heap.size q w w6 s A n c xs) := by rw [hw6]; exact hA5
    have hN1' : Blk w6 p1 37 (nc y).toArray := by rw [hw6]; exact hN1
    have hN2' : Blk w6 p2 37 (nc y).toArray := by rw [hw6, hp2]; exact hN2
    have HW6 := Lib.hid hw6
    have HP2 := Lib.hid hp2
    have HN1 := Lib.hid hN1'
    have HN2 := Lib.hid hN2'
    obtain ⟨c0, c1, c2, c3, c4, c5, c6⟩ := blk7 hN1'
    obtain ⟨d0, d1, d2, d3, d4, d5, d6⟩ := blk7 hN2'
    obtain ⟨k0, k1⟩ := HA6.out.cells
    have hS6 : RowKit.Hid (SCN q p1 p2 s y w6) := Lib.hid ⟨HA6.out.cells, HN1.out, HN2.out⟩
    clear hb5 hA5 hN1 hN2 hN1' hN2' hw6 hp2 q0 q1
    go_upto_region 5 with (fail)
    rw [← HW6.out, ← HP2.out]
    go_region_held3 (fun w' => (w'.cell? ⟨q, 0, none⟩ = some (.int .i64 s.1) ∧ w'.cell? ⟨q, 1, none⟩ = some (.int .i64 s.2)) ∧ (w'.cell? ⟨p1, 0, none⟩ = some (.int .i64 y.id.1) ∧ w'.cell? ⟨p1, 1, none⟩ = some (.int .i64 y.id.2) ∧ w'.cell? ⟨p1, 2, none⟩ = some (.bool y.dir) ∧ w'.cell? ⟨p1, 3, none⟩ = some (.int .i64 y.par.1) ∧ w'.cell? ⟨p1, 4, none⟩ = some (.int .i64 y.par.2) ∧ w'.cell? ⟨p1, 5, none⟩ = some (.string (bs y.nm)) ∧ w'.cell? ⟨p1, 6, none⟩ = some (.string (bs y.mf))) ∧ (w'.cell? ⟨p2, 0, none⟩ = some (.int .i64 y.id.1) ∧ w'.cell? ⟨p2, 1, none⟩ = some (.int .i64 y.id.2) ∧ w'.cell? ⟨p2, 2, none⟩ = some (.bool y.dir) ∧ w'.cell? ⟨p2, 3, none⟩ = some (.int .i64 y.par.1) ∧ w'.cell? ⟨p2, 4, none⟩ = some (.int .i64 y.par.2) ∧ w'.cell? ⟨p2, 5, none⟩ = some (.string (bs y.nm)) ∧ w'.cell? ⟨p2, 6, none⟩ = some (.string (bs y.mf)))) (first | exact HS12.out.all | exact HS11.out.all | exact HS10.out.all | exact HS9.out.all | exact HS8.out.all | exact HS7.out.all | exact hS6.out.all)
      (first
        | (go_at_call 24; refine (HC.out _ HA6.out.drew.nds hm.out).mono ?_; rintro e w7 ⟨v7, rfl, hO7, hb7⟩; obtain ⟨A7, c7', rfl, hN7⟩ := hO7.sts; have HN7 := Lib.hid hN7; have HA7 := Lib.hid (HA6.out.drew.after hb7); have HS7 := Lib.hid (hS6.out.drew.after hb7))
        | (go_at_call 25; refine (HRC.out _ HA7.out.nds hm.out).mono ?_; rintro e w8 ⟨v8, rfl, hO8, hb8⟩; obtain ⟨A8, c8', rfl, hN8⟩ := hO8.sts; have HN8 := Lib.hid hN8; have HA8 := Lib.hid (HA7.out.after hb8); have HN7b := Lib.hid (HN7.out.below hb8); have HS8 := Lib.hid (HS7.out.after hb8))
        | (go_at_call 23; refine (stamps_any A7 A8 _ c7' c8' zs _ HN7b.out HN8.out).mono ?_; rintro e w9 ⟨rfl, hb9⟩; have HA9 := Lib.hid (HA8.out.after hb9); have HS9 := Lib.hid (HS8.out.after hb9))
        | (go_at_call 26; refine (HK.out _ HA9.out.nds hm.out).mono ?_; rintro e w10 ⟨v3, rfl, hO3, hb10⟩; obtain ⟨A3, c3', rfl, hN3⟩ := hO3.nds HSh.out; have HN3 := Lib.hid hN3; have HA10 := Lib.hid (HA9.out.after hb10); have HS10 := Lib.hid (HS9.out.after hb10))
        | (go_at_call 27; refine (HRK.out _ HA10.out.nds hm.out).mono ?_; rintro e w11 ⟨v4, rfl, hO4, hb11⟩; obtain ⟨A4, c4', rfl, hN4⟩ := hO4.nds HSh.out; have HN4 := Lib.hid hN4; have HA11 := Lib.hid (HA10.out.after hb11); have HN3b := Lib.hid (HN3.out.below hb11); have HS11 := Lib.hid (HS10.out.after hb11))
        | (go_at_call 12; refine (same_any A3 A4 _ c3' c4' ys _ HN3b.out HN4.out).mono ?_; rintro e w12 ⟨rfl, hb12⟩; have HA12 := Lib.hid (HA11.out.after hb12); have HS12 := Lib.hid (HS11.out.after hb12))
        | (go_at_call 15; refine (awake_any _).mono ?_; rintro e w13 ⟨rfl, hb13⟩; have HA13 := Lib.hid (HA12.out.after hb13); have HS12 := Lib.hid (HS12.out.after hb13)))
    all_goals go_wp2_with fail
    all_goals go_ret
    all_goals exact ⟨rfl, HA13.out.below⟩
end Go.Proofs.Ythaekoeekpofpaa
