/- Chain of the document. -/
import Derived.Test.YthaekoeekpofpaaI
namespace Go.Proofs.Ythaekoeekpofpaa
open Go.RowKit
attribute [local go_sem] bs_size bs_getElem bs_list bs_append

/-- what holds while the document goes up -/
structure RUp (B0 NB : Nat) (w0 wr : World) (u : Value) (out : List St) (id : St) (y : Nd) : Prop where
  blk : Blk wr B0 30 #[.int .i64 id.1, .int .i64 id.2]
  node : Blk wr NB 37 (nc y).toArray
  own : OwnS wr (NB + 1) u out
  below : Below B0 w0 wr
theorem RUp.stay {B0 NB : Nat} {w0 wr w' : World} {u : Value} {out : List St} {id : St} {y : Nd} (h : RUp B0 NB w0 wr u out id y) (hb : Below wr.heap.size wr w') : RUp B0 NB w0 w' u out id y :=
  ⟨h.blk.below hb h.blk.lt, h.node.below hb h.node.lt, h.own.below hb, h.below.trans (hb.mono (Nat.le_of_lt h.blk.lt))⟩
/-- behind an append to the list -/
theorem RUp.grew {B0 NB : Nat} {w0 wr w' : World} {u v : Value} {out out' : List St} {id : St} {y : Nd} (h : RUp B0 NB w0 wr u out id y) (hBN : B0 < NB) (hg : wr.grownBy w' u.ownBlock) (ho : OwnS w' (NB + 1) v out') : RUp B0 NB w0 w' v out' id y :=
  ⟨h.blk.grown hg (fun e => by have := (h.own.ge _ e.symm).1; omega), h.node.grown hg (fun e => by have := (h.own.ge _ e.symm).1; omega), ho, gb_own h.below (by omega) (Nat.le_of_lt h.blk.lt) h.own hg⟩
theorem RUp.par {B0 NB : Nat} {w0 wr : World} {u : Value} {out : List St} {id : St} {y : Nd} (h : RUp B0 NB w0 wr u out id y) (hBN : B0 < NB) (p : St) : RUp B0 NB w0 ((wr.setCell ⟨B0, 0, none⟩ (.int .i64 p.1)).setCell ⟨B0, 1, none⟩ (.int .i64 p.2)) u out p y := by
  have hset := Blk.set_ (Blk.set_ h.blk 0 (.int .i64 p.1)) 1 (.int .i64 p.2)
  have hgs : wr.grownBy ((wr.setCell ⟨B0, 0, none⟩ (.int .i64 p.1)).setCell ⟨B0, 1, none⟩ (.int .i64 p.2)) (some B0) := gb_setCell (p := ⟨B0, 1, none⟩) (gb_setCell (p := ⟨B0, 0, none⟩) (gb_refl _ _) (.inl rfl) _) (.inl rfl) _
  exact ⟨by simpa using hset, h.node.grown hgs (fun e => by have := Option.some.inj e; omega), h.own.kept hgs (by
    rcases hqq : u.ownBlock with _ | k
    · exact .inl rfl
    · exact .inr (by have := (h.own.ge k hqq).1; intro e; have := Option.some.inj e; omega)), below_gb h.below hgs (Nat.le_refl _) (Nat.le_of_lt h.blk.lt)⟩
theorem grown_put7 (w : World) (B : Nat) (x : Nd) : w.grownBy (put7 w B x) (some B) :=
  gb_setCell (p := ⟨B, 6, none⟩) (gb_setCell (p := ⟨B, 5, none⟩) (gb_setCell (p := ⟨B, 4, none⟩) (gb_setCell (p := ⟨B, 3, none⟩) (gb_setCell (p := ⟨B, 2, none⟩) (gb_setCell (p := ⟨B, 1, none⟩) (gb_setCell (p := ⟨B, 0, none⟩) (gb_refl _ _) (.inl rfl) _) (.inl rfl) _) (.inl rfl) _) (.inl rfl) _) (.inl rfl) _) (.inl rfl) _) (.inl rfl) _
theorem RUp.turn {B0 NB : Nat} {w0 wr : World} {u : Value} {out : List St} {id : St} {y : Nd} (h : RUp B0 NB w0 wr u out id y) (hBN : B0 < NB) (z : Nd) : RUp B0 NB w0 (put7 wr NB z) u out id z :=
  ⟨h.blk.grown (grown_put7 wr NB z) (fun e => by have := Option.some.inj e; omega), blk_put7 z h.node, h.own.kept (grown_put7 wr NB z) (by
    rcases hqq : u.ownBlock with _ | k
    · exact .inl rfl
    · exact .inr (by have := (h.own.ge k hqq).1; intro e; have := Option.some.inj e; omega)), below_gb h.below (grown_put7 wr NB z) (Nat.le_of_lt hBN) (Nat.le_of_lt h.blk.lt)⟩

set_option maxRecDepth 100000 in
set_option maxHeartbeats 3200000 in
theorem rchain_any (s : St) (A : Option Addr) (n c : Nat) (xs : List Nd) (w : World) (hx : Nds w A n c xs) (hm : n ≤ 1000000) :
    Calls Try.prog 25 #[.slice A n c, sv s] w fun e w' => ∃ v, e = .returned v ∧ OwnS w' w.heap.size v (chainN xs s) ∧ Below w.heap.size w w' := by
  obtain ⟨i0, hi0, hz0, hz1, hz2⟩ := info_parts info30
  have hn := hx.len
  have hb1 : Below w.heap.size w (w.alloc (.cells #[.int .i64 s.1, .int .i64 s.2] 30)) := (Below.refl _ w).alloc (Nat.le_refl _) _
  have hB := Blk.new w 30 #[.int .i64 s.1, .int .i64 s.2]
  obtain ⟨w1, hw1⟩ : ∃ w1, w1 = w.alloc (.cells #[.int .i64 s.1, .int .i64 s.2] 30) := ⟨_, rfl⟩
  rw [← hw1] at hb1 hB
  have q0 := hB.cell 0
  have q1 := hB.cell 1
  simp only [List.getElem?_toArray, List.getElem?_cons_zero, List.getElem?_cons_succ] at q0 q1
  have hfd := rfind_any s A n c xs w1 (hx.below hb1)
  obtain ⟨y0, hy0⟩ : ∃ y, y = findN s xs := ⟨_, rfl⟩
  rw [← hy0] at hfd
  unfold sv nv at hfd
  have HFd := Lib.hid hfd
  have HW := Lib.hid hw1
  have HX := Lib.hid hx
  have HB1 := Lib.hid hb1
  have HBk := Lib.hid hB
  have HI := Lib.hid hi0
  have HZ0 := Lib.hid hz0
  have HZ1 := Lib.hid hz1
  have HZ2 := Lib.hid hz2
  have HY0 := Lib.hid hy0
  clear hw1 hx hb1 hB hi0 hz0 hz1 hz2 hfd hy0
  unfold sv
  go_enter Try.func25, Try.ntmps25
  go_wp2_with fail
  rw [← HW.out]
  go_wp2_with fail
  refine HFd.out.mono ?_
  rintro e w2 ⟨rfl, hb2⟩
  have hb3 := HB1.out.trans (hb2.mono HB1.out.size)
  have hBl := HBk.out.below hb2 HBk.out.lt
  have hU : RUp w.heap.size w2.heap.size w (w2.alloc (.cells #[.int .i64 y0.id.1, .int .i64 y0.id.2, .bool y0.dir, .int .i64 y0.par.1, .int .i64 y0.par.2, .string (bs y0.nm), .string (bs y0.mf)] 37)) (.slice none 0 0) [] s y0 :=
    ⟨hBl.alloc _, Blk.new w2 37 (nc y0).toArray, OwnC.nil_ _ _ _, hb3.alloc hb3.size _⟩
  have hBN : w.heap.size < w2.heap.size := hBl.lt
  have HU := Lib.hid hU
  have HL0 := Lib.hid (show left xs [] + ([] : List St).length ≤ xs.length from left_nil xs)
  have HL1 := Lib.hid (show left xs [] < xs.length + 1 from Nat.lt_succ_of_le (left_nil xs))
  clear hb2 hb3 hBl hU q0 q1
  go_wp2_with fail
  obtain ⟨NB, hNB⟩ : ∃ NB, NB = w2.heap.size := ⟨_, rfl⟩
  rw [← hNB] at HU hBN
  rw [← hNB]
  clear hNB
  go_loopw [5, 7] (fun u i wr => ∃ (f : Nat) (out : List St) (id : St), RUp w.heap.size NB w wr u out id (findN id xs) ∧ i = .bool (hasN id xs) ∧ left xs out + out.length ≤ xs.length ∧ left xs out < f ∧ (∀ j ∈ out, hasN j xs = true) ∧ chainG xs f out id = chainN xs s) (fun u _ _ => xs.length - lenV u)
  case atStart => exact ⟨_, [], s, HY0.out ▸ HU.out, rfl, HL0.out, HL1.out, fun j hj => (List.not_mem_nil hj).elim, rfl⟩
  case round =>
    obtain ⟨f, out, id, hU, rfl, hl, hf, hall, hR⟩ := hrel
    obtain ⟨A2, c2, rfl⟩ := OwnC.isSlice hU.own
    obtain ⟨f, rfl⟩ : ∃ g, f = g + 1 := ⟨f - 1, by omega⟩
    unfold chainG at hR
    have q0 := hU.blk.cell 0
    have q1 := hU.blk.cell 1
    simp only [List.getElem?_toArray, List.getElem?_cons_zero, List.getElem?_cons_succ] at q0 q1
    have hn6 : out.length ≤ 1000000 := by omega
    have hs : w.heap.size < wr.heap.size := hU.blk.lt
    have hs2 : NB < wr.heap.size := hU.node.lt
    have HUr := Lib.hid hU
    have HAll := Lib.hid hall
    clear hU hall
    cases hh : hasN id xs with
    | false =>
      have hin : id ∉ out := fun h => by have := HAll.out id h; rw [hh] at this; cases this
      rw [if_neg hin, hh] at hR
      simp only [Bool.false_eq_true, if_false] at hR
      have HR := Lib.hid hR
      clear hR hh hin
      rcases Nat.eq_zero_or_pos out.length with h0 | h0
      · obtain rfl : out = [] := List.eq_nil_of_length_eq_zero h0
        have hR := HR.out
        simp only [if_true] at hR
        have HR := Lib.hid hR
        have HO := Lib.hid (HUr.out.own.mono (show w.heap.size ≤ NB + 1 by omega))
        have HB := Lib.hid HUr.out.below
        clear hR h0
        go_wp2_with fail
        go_ret
        exact ⟨_, rfl, by rw [← HR.out]; exact HO.out, HB.out⟩
      · have hne : out ≠ [] := fun e => by rw [e] at h0; simp at h0
        have hR := HR.out
        rw [if_neg hne] at hR
        have HR := Lib.hid hR
        have hol : decide (((out.length : Nat) : Int) > 0) = true := decide_eq_true (by omega)
        have hU4 := HUr.out.stay ((Below.refl _ wr).alloc (Nat.le_refl _) (.cells #[.int .i64 id.1, .int .i64 id.2] 30))
        have HU4 := Lib.hid hU4
        have HS4 := Lib.hid (show NB + 1 ≤ (wr.alloc (.cells #[.int .i64 id.1, .int .i64 id.2] 30)).heap.size by simp; omega)
        clear hR hne hU4
        go_wp2_with (at_builtin; refine wpList_append_C _ rfl (.tmp 40) (.tmp 42) 43 43 rfl 30 i0 (.agg #[.int .i64 0, .int .i64 0]) 2 Try.underlying43 HI.out HZ0.out HZ1.out rfl (by decide) (NB + 1) _ out.length (scs out) rfl HU4.out.own (.slice (some ⟨wr.heap.size, 0, none⟩) 1 1) rfl 1 (sc id) ?c1 ?c3 ?c4 ?c5 ?_)
        case c1 => exact Src.st id (Blk.new _ _ _)
        case c3 => unfold maxLen; omega
        case c4 => rw [HZ2.out]; omega
        case c5 => exact HS4.out
        intro v' w6 hown hgrow hat
        have hU6 := HU4.out.grew hBN hgrow (OwnS.snoc hown)
        have HO := Lib.hid (hU6.own.mono (show w.heap.size ≤ NB + 1 by omega))
        have HB := Lib.hid hU6.below
        clear hown hgrow hat hU6
        go_wp2_with fail
        go_ret
        exact ⟨_, rfl, by rw [← HR.out]; exact HO.out, HB.out⟩
    | true =>
      obtain ⟨A3, c3, e3, hst⟩ := HUr.out.own.sts
      cases e3
      have HHas := Lib.hid (has_st id A2 out.length c2 out wr hst)
      have hh2 := HHas.out
      unfold sv at hh2
      have HHas := Lib.hid hh2
      clear hst hh2
      by_cases hin : id ∈ out
      · rw [if_pos hin] at hR
        have hd : decide (id ∈ out) = true := decide_eq_true hin
        rw [hd] at HHas
        have HR := Lib.hid hR
        have h0 : 0 < out.length := List.length_pos_of_mem hin
        clear hR hin hd hh
        go_wp2_with fail
        refine HHas.out.mono ?_
        rintro e w3 ⟨rfl, hb3⟩
        have hU3 := HUr.out.stay hb3
        have HO := Lib.hid (hU3.own.mono (show w.heap.size ≤ NB + 1 by omega))
        have HB := Lib.hid hU3.below
        clear hb3 hU3
        go_wp2_with fail
        go_ret
        exact ⟨_, rfl, by rw [← HR.out]; exact HO.out, HB.out⟩
      · rw [if_neg hin, hh] at hR
        simp only [if_true] at hR
        have hd : decide (id ∈ out) = false := decide_eq_false hin
        rw [hd] at HHas
        have HLL := Lib.hid (left_lt hh hin)
        have HHh := Lib.hid hh
        have HR := Lib.hid hR
        clear hR hin hd hh
        go_wp2_with fail
        refine HHas.out.mono ?_
        rintro e w3 ⟨rfl, hb3⟩
        have hU3 := HUr.out.stay hb3
        have r0 := hU3.blk.cell 0
        have r1 := hU3.blk.cell 1
        simp only [List.getElem?_toArray, List.getElem?_cons_zero, List.getElem?_cons_succ] at r0 r1
        have hs3 : NB < w3.heap.size := hU3.node.lt
        have HU4 := Lib.hid (hU3.stay ((Below.refl _ w3).alloc (Nat.le_refl _) (.cells #[.int .i64 id.1, .int .i64 id.2] 30)))
        have HS4 := Lib.hid (show NB + 1 ≤ (w3.alloc (.cells #[.int .i64 id.1, .int .i64 id.2] 30)).heap.size by simp; omega)
        clear hb3 hU3 hs3
        go_wp2_with (at_builtin; refine wpList_append_C _ rfl (.tmp 21) (.tmp 23) 43 43 rfl 30 i0 (.agg #[.int .i64 0, .int .i64 0]) 2 Try.underlying43 HI.out HZ0.out HZ1.out rfl (by decide) (NB + 1) _ out.length (scs out) rfl HU4.out.own (.slice (some ⟨w3.heap.size, 0, none⟩) 1 1) rfl 1 (sc id) ?c1 ?c3 ?c4 ?c5 ?_)
        case c1 => exact Src.st id (Blk.new _ _ _)
        case c3 => unfold maxLen; omega
        case c4 => rw [HZ2.out]; omega
        case c5 => exact HS4.out
        intro v' w6 hown hgrow hat
        have hU6 := HU4.out.grew hBN hgrow (OwnS.snoc hown)
        obtain ⟨y, hy⟩ : ∃ y, y = findN id xs := ⟨_, rfl⟩
        rw [← hy] at hU6
        have HYy := Lib.hid hy
        obtain ⟨p0, p1, p2, p3, p4, p5, p6⟩ := blk7 hU6.node
        have u0 := hU6.blk.cell 0
        have u1 := hU6.blk.cell 1
        simp only [List.getElem?_toArray, List.getElem?_cons_zero, List.getElem?_cons_succ] at u0 u1
        have v0 := hU6.blk.frozen 0
        have v1 := hU6.blk.frozen 1
        have hU7 := hU6.par hBN y.par
        have z0 := hU7.blk.cell 0
        have z1 := hU7.blk.cell 1
        simp only [List.getElem?_toArray, List.getElem?_cons_zero, List.getElem?_cons_succ] at z0 z1
        have hfd := rfind_any y.par A n c xs _ (HX.out.below hU7.below)
        obtain ⟨z, hz⟩ : ∃ z, z = findN y.par xs := ⟨_, rfl⟩
        rw [← hz] at hfd
        unfold sv nv at hfd
        have HFd2 := Lib.hid hfd
        have HZz := Lib.hid hz
        have HU7 := Lib.hid hU7
        obtain ⟨A5, c5, rfl⟩ := OwnC.isSlice hU6.own
        clear hown hgrow hat hU6 hU7 hfd hz hy
        go_wp2_with fail
        refine HFd2.out.mono ?_
        rintro e w8 ⟨rfl, hb8⟩
        have hU8 := HU7.out.stay hb8
        obtain ⟨g0, g1, g2, g3, g4, g5, g6⟩ := blk7 hU8.node
        have f0 := hU8.node.frozen 0
        have f1 := hU8.node.frozen 1
        have f2 := hU8.node.frozen 2
        have f3 := hU8.node.frozen 3
        have f4 := hU8.node.frozen 4
        have f5 := hU8.node.frozen 5
        have f6 := hU8.node.frozen 6
        have hU9 := hU8.turn hBN z
        unfold put7 at hU9
        have HU9 := Lib.hid hU9
        clear hb8 hU8 hU9
        go_wp2_with fail
        have hLL := HLL.out
        rw [show (out ++ [id]).length = out.length + 1 from by simp] at HU9
        have hfin : chainG xs f (out ++ [id]) y.par = chainN xs s := by rw [HYy.out]; exact HR.out
        exact ⟨⟨f, out ++ [id], y.par, by rw [← HZz.out]; exact HU9.out, rfl, by simp; omega, by omega, fun j hj => by
          rcases List.mem_append.1 hj with h | h
          · exact HAll.out j h
          · rw [List.mem_singleton.1 h]; exact HHh.out, hfin⟩, by simp [lenV]; omega⟩
end Go.Proofs.Ythaekoeekpofpaa
