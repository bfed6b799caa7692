/- Chain. -/
import Derived.Test.YthaekoeekpofpaaH
namespace Go.Proofs.Ythaekoeekpofpaa
open Go.RowKit
attribute [local go_sem] bs_size bs_getElem bs_list bs_append run_make

def sc (s : St) : List Value := [.int .i64 s.1, .int .i64 s.2]
def scs (l : List St) : List Value := l.flatMap sc
theorem scs_append (a b : List St) : scs (a ++ b) = scs a ++ scs b := by simp [scs]
theorem scs_at (l : List St) (k j : Nat) (hk : k < l.length) (hj : j < 2) : (scs l)[k * 2 + j]? = (sc l[k])[j]? := by
  induction l generalizing k with
  | nil => simp at hk
  | cons x l ih =>
    cases k with
    | zero =>
      simp only [scs, List.flatMap_cons]
      rw [List.getElem?_append_left (by simp [sc]; omega)]
      simp
    | succ k =>
      have := ih k (by simpa using hk)
      simp only [scs, List.flatMap_cons] at this ⊢
      rw [List.getElem?_append_right (by simp [sc]; omega)]
      rw [show (k + 1) * 2 + j - (sc x).length = k * 2 + j from by simp [sc]; omega, this]
      simp
/-- a list of stamps of one's own -/
abbrev OwnS (w : World) (B : Nat) (v : Value) (l : List St) : Prop := OwnC w B 2 v l.length (scs l)
theorem OwnS.sts {w : World} {B : Nat} {v : Value} {xs : List St} (h : OwnS w B v xs) : ∃ A c, v = .slice A xs.length c ∧ Sts w A xs.length c xs := by
  rcases h.2 with ⟨rfl, h0⟩ | ⟨g, cap, rfl, hb, hlt, hnc, hcm, _, _, hx⟩
  · obtain rfl : xs = [] := List.eq_nil_of_length_eq_zero h0
    exact ⟨none, 0, rfl, Sl.nil_⟩
  · refine ⟨_, cap, rfl, rfl, hnc, by unfold maxLen at hcm; omega, fun i hi => ⟨g, 0, sc xs[i], rfl, hlt, rfl, rfl, fun j u hu => ?_⟩⟩
    have hj : j < 2 := by
      rcases Nat.lt_or_ge j 2 with h | h
      · exact h
      · rw [List.getElem?_eq_none (by simpa [sc] using h)] at hu; cases hu
    rw [Nat.zero_add]
    exact hx _ u (by rw [scs_at xs i j hi hj]; exact hu)
theorem OwnS.snoc {w : World} {B : Nat} {v : Value} {xs : List St} {x : St} (h : OwnC w B 2 v (xs.length + 1) (scs xs ++ sc x)) : OwnS w B v (xs ++ [x]) := by
  unfold OwnS
  rw [scs_append, List.length_append]
  simpa [scs] using h
theorem info30 : (Try.prog.info? 30).map (fun i => (i.zero, i.size, i.bytes)) = some (some (.agg #[.int .i64 0, .int .i64 0]), 2, 16) := by kernel_rfl
theorem Src.st {w : World} {g c : Nat} (x : St) (h : Blk w g 30 #[.int .i64 x.1, .int .i64 x.2]) : Src Try.prog 2 43 (.slice (some ⟨g, 0, none⟩) 1 c) 1 (sc x) w :=
  Src.ofSlice w Try.underlying43 ⟨g, 0, none⟩ 1 c (sc x) rfl (fun j u hu => by
    have : (Addr.mk g 0 none).add j = ⟨g, j, none⟩ := by unfold Addr.add; split <;> simp_all
    rw [this, h.cell]
    simpa [sc] using hu) (by
    intro u hu
    simp [sc] at hu
    rcases hu with rfl | rfl <;> rfl)
def lenV (v : Value) : Nat := match v with
  | .slice _ n _ => n
  | _ => 0
/-- what holds while a chain is gone up -/
structure Up (B0 : Nat) (w0 wr : World) (M : Nat) (u : Value) (out : List St) (id : St) : Prop where
  blk : Blk wr B0 30 #[.int .i64 id.1, .int .i64 id.2]
  met : Met wr M out
  own : OwnS wr (B0 + 2) u out
  below : Below B0 w0 wr
theorem Up.stay {B0 : Nat} {w0 wr w' : World} {M : Nat} {u : Value} {out : List St} {id : St} (h : Up B0 w0 wr M u out id) (hb : Below wr.heap.size wr w') (hs : B0 ≤ wr.heap.size) : Up B0 w0 w' M u out id :=
  ⟨h.blk.below hb h.blk.lt, h.met.heap (hb.block M h.met.lt), h.own.below hb, h.below.trans (hb.mono hs)⟩
/-- behind the map's turn -/
theorem Up.mark {B0 : Nat} {w0 wr w' : World} {u : Value} {out : List St} {id : St} (h : Up B0 w0 wr (B0 + 1) u out id) (hg : wr.grownBy w' (some (B0 + 1))) (hs : B0 ≤ wr.heap.size) : Blk w' B0 30 #[.int .i64 id.1, .int .i64 id.2] ∧ OwnS w' (B0 + 2) u out ∧ Below B0 w0 w' :=
  ⟨h.blk.grown hg (fun e => by have := Option.some.inj e; omega), h.own.kept hg (by
    rcases hq : u.ownBlock with _ | k
    · exact .inl rfl
    · exact .inr (by have := (h.own.ge k hq).1; intro e; have := Option.some.inj e; omega)), below_gb h.below hg (Nat.le_succ _) hs⟩

set_option maxRecDepth 100000 in
set_option maxHeartbeats 3200000 in
theorem chain_any (s : St) (A : Option Addr) (n c : Nat) (xs : List Nd) (w : World) (hx : Nds w A n c xs) (hm : n ≤ 1000000) :
    Calls Try.prog 24 #[.slice A n c, sv s] w fun e w' => ∃ v, e = .returned v ∧ OwnS w' w.heap.size v (chainN xs s) ∧ Below w.heap.size w w' := by
  obtain ⟨i0, hi0, hz0, hz1, hz2⟩ := info_parts info30
  have hn := hx.len
  have hb1 : Below w.heap.size w (w.alloc (.cells #[.int .i64 s.1, .int .i64 s.2] 30)) := (Below.refl _ w).alloc (Nat.le_refl _) _
  have hB := (Blk.new w 30 #[.int .i64 s.1, .int .i64 s.2]).alloc (.map #[] 0)
  have hb2 := hb1.alloc hb1.size (.map #[] 0)
  have hM := Met.new (w.alloc (.cells #[.int .i64 s.1, .int .i64 s.2] 30))
  rw [show (w.alloc (.cells #[.int .i64 s.1, .int .i64 s.2] 30)).heap.size = w.heap.size + 1 from Array.size_push _] at hM
  have hU : Up w.heap.size w ((w.alloc (.cells #[.int .i64 s.1, .int .i64 s.2] 30)).alloc (.map #[] 0)) (w.heap.size + 1) (.slice none 0 0) [] s := ⟨hB, hM, OwnC.nil_ _ _ _, hb2⟩
  obtain ⟨w1, hw1⟩ : ∃ w1, w1 = (w.alloc (.cells #[.int .i64 s.1, .int .i64 s.2] 30)).alloc (.map #[] 0) := ⟨_, rfl⟩
  rw [← hw1] at hU
  have HW := Lib.hid hw1
  have HX := Lib.hid hx
  have HU := Lib.hid hU
  have HI := Lib.hid hi0
  have HZ0 := Lib.hid hz0
  have HZ1 := Lib.hid hz1
  have HZ2 := Lib.hid hz2
  have hl0 : left xs [] + ([] : List St).length ≤ xs.length := left_nil xs
  have hl1 : left xs [] < xs.length + 1 := Nat.lt_succ_of_le (left_nil xs)
  have HL0 := Lib.hid hl0
  have HL1 := Lib.hid hl1
  clear hw1 hx hb1 hb2 hB hM hi0 hz0 hz1 hz2 hU hl0 hl1
  unfold sv
  go_enter Try.func24, Try.ntmps24
  go_wp2_with fail
  rw [← HW.out]
  go_loopw [6] (fun u wr => ∃ (f : Nat) (out : List St) (id : St), Up w.heap.size w wr (w.heap.size + 1) u out id ∧ left xs out + out.length ≤ xs.length ∧ left xs out < f ∧ chainG xs f out id = chainN xs s) (fun u _ => xs.length - lenV u)
  case atStart => exact ⟨_, [], s, HU.out, HL0.out, HL1.out, rfl⟩
  case round =>
    obtain ⟨f, out, id, hU, hl, hf, hR⟩ := hrel
    obtain ⟨A2, c2, rfl⟩ := OwnC.isSlice hU.own
    have hs : w.heap.size ≤ wr.heap.size := Nat.le_of_lt hU.blk.lt
    obtain ⟨f, rfl⟩ : ∃ g, f = g + 1 := ⟨f - 1, by omega⟩
    unfold chainG at hR
    have hlk := hU.met.look id
    have q0 := hU.blk.cell 0
    have q1 := hU.blk.cell 1
    simp only [List.getElem?_toArray, List.getElem?_cons_zero, List.getElem?_cons_succ] at q0 q1
    unfold sv at hlk
    have HUr := Lib.hid hU
    have HXr := Lib.hid (HX.out.below (hU.below))
    have hq0l := hU.blk.lt
    clear hU
    by_cases hin : id ∈ out
    · rw [if_pos hin] at hR
      have hd : decide (id ∈ out) = true := decide_eq_true hin
      rw [hd] at hlk
      have HR := Lib.hid hR
      have hO := HUr.out.own.mono (Nat.le_add_right w.heap.size 2)
      have HO := Lib.hid hO
      have HB := Lib.hid HUr.out.below
      clear hin hd hR hO
      go_wp2_with fail
      go_ret
      exact ⟨_, rfl, by rw [← HR.out]; exact HO.out, HB.out⟩
    rw [if_neg hin] at hR
    have hd : decide (id ∈ out) = false := decide_eq_false hin
    rw [hd] at hlk
    have HNin := Lib.hid hin
    clear hin hd
    have hfd := find_any id A n c xs wr HXr.out
    obtain ⟨y, hy⟩ : ∃ y, y = findN id xs := ⟨_, rfl⟩
    rw [← hy] at hfd hR
    unfold sv nv at hfd
    have HY := Lib.hid hy
    clear hy
    cases hh : hasN id xs with
    | false =>
      rw [hh] at hfd hR
      simp only [Bool.false_eq_true, if_false] at hR
      have HFd := Lib.hid hfd
      have HR := Lib.hid hR
      have HH := Lib.hid hh
      clear hfd hR hh
      cases hout : out with
      | nil =>
        subst hout
        go_wp2_with fail
        refine HFd.out.mono ?_
        rintro e w2 ⟨rfl, hb2⟩
        have hb3 := HUr.out.below.trans (hb2.mono hs)
        have HB4 := Lib.hid (hb3.alloc hb3.size (.cells #[.int .i64 y.id.1, .int .i64 y.id.2, .bool y.dir, .int .i64 y.par.1, .int .i64 y.par.2, .string (bs y.nm), .string (bs y.mf)] 37))
        have hR := HR.out
        simp only [if_true] at hR
        have HR := Lib.hid hR
        clear hb2 hb3 hR
        go_wp2_with fail
        go_ret
        exact ⟨_, rfl, by rw [← HR.out]; exact OwnC.nil_ _ _ _, HB4.out⟩
      | cons o0 or =>
        rw [← hout]
        have hone : out ≠ [] := by rw [hout]; simp
        have hR := HR.out
        rw [if_neg hone] at hR
        have HR := Lib.hid hR
        have hol : ((out.length : Nat) : Int) ≠ 0 := by rw [hout]; simp; omega
        have hol2 : (((out.length : Nat) : Int) == 0) = false := beq_eq_false_iff_ne.2 hol
        clear hone hR hout
        go_wp2_with fail
        refine HFd.out.mono ?_
        rintro e w2 ⟨rfl, hb2⟩
        have hb3 : Below wr.heap.size wr (w2.alloc (.cells #[.int .i64 y.id.1, .int .i64 y.id.2, .bool y.dir, .int .i64 y.par.1, .int .i64 y.par.2, .string (bs y.nm), .string (bs y.mf)] 37)) := hb2.alloc hb2.size _
        have hU3 := HUr.out.stay hb3 hs
        have hN3 : Blk (w2.alloc (.cells #[.int .i64 y.id.1, .int .i64 y.id.2, .bool y.dir, .int .i64 y.par.1, .int .i64 y.par.2, .string (bs y.nm), .string (bs y.mf)] 37)) w2.heap.size 37 (nc y).toArray := Blk.new w2 37 (nc y).toArray
        have hs2 : wr.heap.size ≤ w2.heap.size := hb2.size
        have hs3 : w.heap.size ≤ (w2.alloc (.cells #[.int .i64 y.id.1, .int .i64 y.id.2, .bool y.dir, .int .i64 y.par.1, .int .i64 y.par.2, .string (bs y.nm), .string (bs y.mf)] 37)).heap.size := Nat.le_of_lt hU3.blk.lt
        obtain ⟨w4, hup, hM4, hg4, hsz4⟩ := hU3.met.add id
        obtain ⟨hB4, hO4, hb4⟩ := hU3.mark hg4 hs3
        have hml := HUr.out.met.lt
        have hN4 := hN3.grown hg4 (by intro e; have := Option.some.inj e; omega)
        have r0 := hU3.blk.cell 0
        have r1 := hU3.blk.cell 1
        have t0 := hB4.cell 0
        have t1 := hB4.cell 1
        simp only [List.getElem?_toArray, List.getElem?_cons_zero, List.getElem?_cons_succ] at r0 r1 t0 t1
        unfold sv at hup
        have hs4 : w.heap.size + 1 < w4.heap.size := by rw [hsz4]; exact hU3.met.lt
        have hs5 : w2.heap.size < w4.heap.size := hN4.lt
        have HO5 := Lib.hid (hO4.alloc (.cells #[.int .i64 id.1, .int .i64 id.2] 30))
        have HB5 := Lib.hid (hb4.alloc (Nat.le_of_lt (Nat.lt_of_succ_lt hs4)) (.cells #[.int .i64 id.1, .int .i64 id.2] 30))
        have HBr5 := Lib.hid (hB4.alloc (.cells #[.int .i64 id.1, .int .i64 id.2] 30))
        have HN5 := Lib.hid (hN4.alloc (.cells #[.int .i64 id.1, .int .i64 id.2] 30))
        have HM5 := Lib.hid (hM4.heap (Below.heap_alloc w4 (.cells #[.int .i64 id.1, .int .i64 id.2] 30) _ hM4.lt))
        have HS5 := Lib.hid (show w.heap.size + 2 ≤ (w4.alloc (.cells #[.int .i64 id.1, .int .i64 id.2] 30)).heap.size by simp; omega)
        have HS6 := Lib.hid hs5
        have HS10 := Lib.hid (show wr.heap.size ≤ w2.heap.size from hs2)
        have HS7 := Lib.hid hs4
        have hn6 : out.length ≤ 1000000 := by omega
        have HS8 := Lib.hid (show w.heap.size < w2.heap.size by omega)
        have HS9 := Lib.hid (show w.heap.size + 1 < w2.heap.size by have := HUr.out.met.lt; omega)
        clear hb2 hb3 hU3 hN3 hM4 hg4 hsz4 hB4 hO4 hb4 hN4 hs2 hs3 hs4 hs5
        go_wp2_with (at_builtin; refine wpList_append_C _ rfl (.tmp 29) (.tmp 31) 43 43 rfl 30 i0 (.agg #[.int .i64 0, .int .i64 0]) 2 Try.underlying43 HI.out HZ0.out HZ1.out rfl (by decide) (w.heap.size + 2) _ out.length (scs out) rfl HO5.out (.slice (some ⟨w4.heap.size, 0, none⟩) 1 1) rfl 1 (sc id) ?c1 ?c3 ?c4 ?c5 ?_)
        case c1 => exact Src.st id (Blk.new _ _ _)
        case c3 => unfold maxLen; omega
        case c4 => rw [HZ2.out]; omega
        case c5 => exact HS5.out
        intro v' w6 hown hgrow hat
        have HOn := Lib.hid (OwnS.snoc hown)
        have HBn := Lib.hid (gb_own HB5.out (Nat.le_add_right _ 2) (Nat.le_trans (Nat.le_add_right _ 2) HS5.out) HO5.out hgrow)
        have HBrn := Lib.hid (Blk.grown HBr5.out hgrow (fun e => by have := (HO5.out.ge _ e.symm).1; omega))
        have HMn := Lib.hid (HM5.out.heap (hgrow.block _ HM5.out.lt (fun e => by have := (HO5.out.ge _ e.symm).1; omega)))
        have hne6 : (Value.slice A2 out.length c2).ownBlock ≠ some w2.heap.size := fun e => by
          have h1 := (HUr.out.own.ge _ e).2
          have := HS10.out
          omega
        have HPar := Lib.hid (blk7 (Blk.grown HN5.out hgrow (fun e => hne6 e.symm)))
        clear hown hgrow hat hne6
        go_wp2_with fail
        go_ret
        exact ⟨_, rfl, by rw [← HR.out]; exact HOn.out.mono (Nat.le_add_right w.heap.size 2), HBn.out⟩
    | true =>
      rw [hh] at hfd hR
      simp only [if_true] at hR
      have HFd := Lib.hid hfd
      have HR := Lib.hid hR
      have hll := left_lt hh HNin.out
      have HLL := Lib.hid hll
      clear hfd hR hh hll
      go_wp2_with fail
      refine HFd.out.mono ?_
      rintro e w2 ⟨rfl, hb2⟩
      have hb3 : Below wr.heap.size wr (w2.alloc (.cells #[.int .i64 y.id.1, .int .i64 y.id.2, .bool y.dir, .int .i64 y.par.1, .int .i64 y.par.2, .string (bs y.nm), .string (bs y.mf)] 37)) := hb2.alloc hb2.size _
      have hU3 := HUr.out.stay hb3 hs
      have hN3 : Blk (w2.alloc (.cells #[.int .i64 y.id.1, .int .i64 y.id.2, .bool y.dir, .int .i64 y.par.1, .int .i64 y.par.2, .string (bs y.nm), .string (bs y.mf)] 37)) w2.heap.size 37 (nc y).toArray := Blk.new w2 37 (nc y).toArray
      have hs2 : wr.heap.size ≤ w2.heap.size := hb2.size
      have hs3 : w.heap.size ≤ (w2.alloc (.cells #[.int .i64 y.id.1, .int .i64 y.id.2, .bool y.dir, .int .i64 y.par.1, .int .i64 y.par.2, .string (bs y.nm), .string (bs y.mf)] 37)).heap.size := Nat.le_of_lt hU3.blk.lt
      obtain ⟨w4, hup, hM4, hg4, hsz4⟩ := hU3.met.add id
      obtain ⟨hB4, hO4, hb4⟩ := hU3.mark hg4 hs3
      have hml := HUr.out.met.lt
      have hN4 := hN3.grown hg4 (by intro e; have := Option.some.inj e; omega)
      have r0 := hU3.blk.cell 0
      have r1 := hU3.blk.cell 1
      have t0 := hB4.cell 0
      have t1 := hB4.cell 1
      simp only [List.getElem?_toArray, List.getElem?_cons_zero, List.getElem?_cons_succ] at r0 r1 t0 t1
      unfold sv at hup
      have hs4 : w.heap.size + 1 < w4.heap.size := by rw [hsz4]; exact hU3.met.lt
      have hs5 : w2.heap.size < w4.heap.size := hN4.lt
      have HO5 := Lib.hid (hO4.alloc (.cells #[.int .i64 id.1, .int .i64 id.2] 30))
      have HB5 := Lib.hid (hb4.alloc (Nat.le_of_lt (Nat.lt_of_succ_lt hs4)) (.cells #[.int .i64 id.1, .int .i64 id.2] 30))
      have HBr5 := Lib.hid (hB4.alloc (.cells #[.int .i64 id.1, .int .i64 id.2] 30))
      have HN5 := Lib.hid (hN4.alloc (.cells #[.int .i64 id.1, .int .i64 id.2] 30))
      have HM5 := Lib.hid (hM4.heap (Below.heap_alloc w4 (.cells #[.int .i64 id.1, .int .i64 id.2] 30) _ hM4.lt))
      have HS5 := Lib.hid (show w.heap.size + 2 ≤ (w4.alloc (.cells #[.int .i64 id.1, .int .i64 id.2] 30)).heap.size by simp; omega)
      have HS6 := Lib.hid hs5
      have HS10 := Lib.hid (show wr.heap.size ≤ w2.heap.size from hs2)
      have HS7 := Lib.hid hs4
      have hn6 : out.length ≤ 1000000 := by omega
      have HS8 := Lib.hid (show w.heap.size < w2.heap.size by omega)
      have HS9 := Lib.hid (show w.heap.size + 1 < w2.heap.size by have := HUr.out.met.lt; omega)
      clear hb2 hb3 hU3 hN3 hM4 hg4 hsz4 hB4 hO4 hb4 hN4 hs2 hs3 hs4 hs5
      go_wp2_with (at_builtin; refine wpList_append_C _ rfl (.tmp 29) (.tmp 31) 43 43 rfl 30 i0 (.agg #[.int .i64 0, .int .i64 0]) 2 Try.underlying43 HI.out HZ0.out HZ1.out rfl (by decide) (w.heap.size + 2) _ out.length (scs out) rfl HO5.out (.slice (some ⟨w4.heap.size, 0, none⟩) 1 1) rfl 1 (sc id) ?c1 ?c3 ?c4 ?c5 ?_)
      case c1 => exact Src.st id (Blk.new _ _ _)
      case c3 => unfold maxLen; omega
      case c4 => rw [HZ2.out]; omega
      case c5 => exact HS5.out
      intro v' w6 hown hgrow hat
      have HOn := Lib.hid (OwnS.snoc hown)
      have HBn := Lib.hid (gb_own HB5.out (Nat.le_add_right _ 2) (Nat.le_trans (Nat.le_add_right _ 2) HS5.out) HO5.out hgrow)
      have HBrn := Lib.hid (Blk.grown HBr5.out hgrow (fun e => by have := (HO5.out.ge _ e.symm).1; omega))
      have HMn := Lib.hid (HM5.out.heap (hgrow.block _ HM5.out.lt (fun e => by have := (HO5.out.ge _ e.symm).1; omega)))
      have hne6 : (Value.slice A2 out.length c2).ownBlock ≠ some w2.heap.size := fun e => by
        have h1 := (HUr.out.own.ge _ e).2
        have := HS10.out
        omega
      have HPar := Lib.hid (blk7 (Blk.grown HN5.out hgrow (fun e => hne6 e.symm)))
      clear hown hgrow hat hne6
      have hq := HBrn.out
      have f0 := hq.frozen 0
      have f1 := hq.frozen 1
      have g0 := hq.cell 0
      have g1 := hq.cell 1
      simp only [List.getElem?_toArray, List.getElem?_cons_zero, List.getElem?_cons_succ] at g0 g1
      have hset := Blk.set_ (Blk.set_ hq 0 (.int .i64 y.par.1)) 1 (.int .i64 y.par.2)
      have hset : Blk ((w6.setCell ⟨w.heap.size, 0, none⟩ (.int .i64 y.par.1)).setCell ⟨w.heap.size, 1, none⟩ (.int .i64 y.par.2)) w.heap.size 30 #[.int .i64 y.par.1, .int .i64 y.par.2] := by simpa using hset
      have hgs : w6.grownBy ((w6.setCell ⟨w.heap.size, 0, none⟩ (.int .i64 y.par.1)).setCell ⟨w.heap.size, 1, none⟩ (.int .i64 y.par.2)) (some w.heap.size) := gb_setCell (p := ⟨w.heap.size, 1, none⟩) (gb_setCell (p := ⟨w.heap.size, 0, none⟩) (gb_refl _ _) (.inl rfl) _) (.inl rfl) _
      have hUn : Up w.heap.size w ((w6.setCell ⟨w.heap.size, 0, none⟩ (.int .i64 y.par.1)).setCell ⟨w.heap.size, 1, none⟩ (.int .i64 y.par.2)) (w.heap.size + 1) v' (out ++ [id]) y.par :=
        ⟨hset, HMn.out.heap (hgs.block _ HMn.out.lt (by intro e; have := Option.some.inj e; omega)), HOn.out.kept hgs (by
          rcases hqq : v'.ownBlock with _ | k
          · exact .inl rfl
          · exact .inr (by have := (HOn.out.ge k hqq).1; intro e; have := Option.some.inj e; omega)), below_gb HBn.out hgs (Nat.le_refl _) (Nat.le_of_lt hq.lt)⟩
      have hpar := HPar.out
      have HUn := Lib.hid hUn
      obtain ⟨A3, c3, rfl⟩ := OwnC.isSlice HOn.out
      clear hset hgs hUn hq
      go_wp2_with fail
      have hLL := HLL.out
      exact ⟨⟨f, out ++ [id], y.par, HUn.out, by simp; omega, by omega, by rw [HY.out]; rw [HY.out] at HR; exact HR.out⟩, by simp [lenV]; omega⟩
end Go.Proofs.Ythaekoeekpofpaa
