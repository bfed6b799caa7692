/- The document's state: Insert and Nodes. -/
import Derived.Test.YtaglomhmnoldlaaFe
namespace Go.Proofs.Ytaglomhmnoldlaa
open Go.RowKit
attribute [local go_sem] bs_size bs_getElem bs_list bs_append

theorem Ops.take_ {w : World} {A : Option Addr} {n c : Nat} {xs : List TOp} (h : Ops w A n c xs) {k : Nat} (hk : k ≤ n) : Ops w A k c (xs.take k) :=
  ⟨by rw [List.length_take, h.len]; omega, Nat.le_trans hk h.le, h.max, fun i hi => by
    rw [List.length_take] at hi
    obtain ⟨b, off, cs, e, hlt, hl, hr, hc⟩ := h.4 i (by omega)
    exact ⟨b, off, cs, e, hlt, hl, by simpa using hr, hc⟩⟩
theorem Ops.drop_ {w : World} {b off n c : Nat} {xs : List TOp} (h : Ops w (some ⟨b, off, none⟩) n c xs) {k : Nat} (hk : k ≤ n) : Ops w (some ⟨b, off + k * 11, none⟩) (n - k) (c - k) (xs.drop k) :=
  ⟨by rw [List.length_drop, h.len], by have := h.le; omega, by have := h.max; omega, fun i hi => by
    rw [List.length_drop] at hi
    obtain ⟨b2, off2, cs, e, hlt, hl, hr, hc⟩ := h.4 (k + i) (by omega)
    cases e
    exact ⟨b, off + k * 11, cs, rfl, hlt, hl, by simpa using hr, fun j u hu => by
      have := hc j u hu
      rwa [show off + (k + i) * 11 + j = off + k * 11 + i * 11 + j by rw [Nat.add_mul]; omega] at this⟩⟩
theorem src_ops_none {w : World} {A : Option Addr} {c : Nat} : Src Try.prog 11 39 (.slice A 0 c) 0 [] w := by
  cases A with
  | none => exact Src.ofNil w Try.underlying39 c
  | some a => exact Src.ofSlice w Try.underlying39 a 0 c [] rfl (fun j u hu => by simp at hu) (fun u hu => by cases hu)
section
variable (w : World) {ops : Array Oper} {rest : List Oper} {o : Oper} {a : Act} {Q : Exit → Act → World → Prop}
set_option maxRecDepth 100000 in
/-- l[:k] -/
theorem wpList_take_ops (hgd : o.guard = none) (x hi : Operand) (ho : o.op = .slice 39 x none (some hi) none) (A : Option Addr) (n c k : Nat) (xs : List TOp) (hx : a.eval x = .slice A n c) (hk : a.eval hi = .int .i64 k) (hl : Ops w A n c xs) (hkn : k ≤ n)
    (h : ∀ v, Src Try.prog 11 39 v k (ocs (xs.take k)) w → wpList Try.prog ops Q rest (a.put o.dst v) w) : wpList Try.prog ops Q (o :: rest) a w :=
  wpList_plain hgd fun K hK => by
    have hle := hl.le
    have hmx := hl.max
    have hs := Src.ops (hl.take_ hkn)
    have h1 := hK _ _ (h _ hs)
    have q1 : (k : Int) ≤ (c : Int) := by omega
    have q2 : (0 : Int) ≤ (k : Int) := by omega
    unfold Oper.wp execOp
    simp only [ho, hx, hk, Option.map_some, Option.map_none]
    cases A <;> (go_simp; exact h1)
set_option maxRecDepth 100000 in
/-- l[k:] -/
theorem wpList_drop_ops (hgd : o.guard = none) (x lo : Operand) (ho : o.op = .slice 39 x (some lo) none none) (A : Option Addr) (n c k : Nat) (xs : List TOp) (hx : a.eval x = .slice A n c) (hk : a.eval lo = .int .i64 k) (hl : Ops w A n c xs) (hkn : k ≤ n)
    (h : ∀ v, Src Try.prog 11 39 v (n - k) (ocs (xs.drop k)) w → wpList Try.prog ops Q rest (a.put o.dst v) w) : wpList Try.prog ops Q (o :: rest) a w :=
  wpList_plain hgd fun K hK => by
    have hle := hl.le
    have hmx := hl.max
    have hn := hl.len
    have q1 : (k : Int) ≤ (n : Int) := by omega
    have q2 : (0 : Int) ≤ (k : Int) := by omega
    unfold Oper.wp execOp
    simp only [ho, hx, hk, Option.map_some, Option.map_none]
    rcases Nat.lt_or_ge k n with hlt | hge
    · obtain ⟨b, off, cs, rfl, _⟩ := hl.4 0 (by omega)
      have hs := Src.ops (hl.drop_ hkn)
      have h1 := hK _ _ (h _ hs)
      have hne : ¬ c = k := by omega
      have e1 : (⟨b, off, none⟩ : Addr).add (k * 11) = ⟨b, off + k * 11, none⟩ := Addr.add_mid _ _ _
      go_simp
      exact h1
    · obtain rfl : k = n := by omega
      have hd : xs.drop k = [] := List.drop_eq_nil_of_le (by omega)
      rw [hd] at h
      have h1 : ∀ A2, K (a.put o.dst (.slice A2 0 (c - k))) w := fun A2 => by
        have := hK _ _ (h (.slice A2 0 (c - k)) (by rw [Nat.sub_self]; exact src_ops_none))
        exact this
      cases A with
      | none => go_simp; exact h1 _
      | some b =>
        by_cases hc : c = k
        · have h2 := h1 (some b)
          subst hc
          go_simp
          rw [Nat.sub_self] at h2
          exact h2
        · go_simp; exact h1 _
end
/-- the document's state in memory -/
structure RefS (w : World) (B p : Nat) (v : Value) (N : Int) (L : List TOp) : Prop where
  blk : Blk w p 43 #[v, .int .i64 N]
  own : OwnO w B v L
  nep : v.ownBlock ≠ some p
  sorted : Sorted L
  len : L.length ≤ 400
  short : ShortO L
  p_ge : B ≤ p
theorem RefS.below {w w' : World} {B p : Nat} {v : Value} {N : Int} {L : List TOp} (h : RefS w B p v N L) (hb : Below w.heap.size w w') : RefS w' B p v N L := ⟨h.blk.below hb h.blk.lt, OwnC.below h.own hb, h.nep, h.sorted, h.len, h.short, h.p_ge⟩
/-- what its Insert does -/
def RIns (w : World) (B p : Nat) (v : Value) (N : Int) (L : List TOp) (x : TOp) (e : Ending) (w' : World) : Prop :=
  ∃ v' N', e = .returned (.int .i64 (codeO L x)) ∧ RefS w' B p v' N' (insO L x) ∧ w.grownBy w' (some p) ∧ (∀ g, v'.ownBlock = some g → v.ownBlock = some g ∨ w.heap.size ≤ g) ∧ (codeO L x = 0 → N' = L.length - atO L x.st) ∧ (codeO L x ≠ 0 → N' = N)

set_option maxRecDepth 100000 in
set_option maxHeartbeats 3200000 in
theorem rinsert_st (x : TOp) (hxs : OpS x) (B p : Nat) (v : Value) (N : Int) (L : List TOp) (w : World) (h : RefS w B p v N L) (hB : B ≤ w.heap.size) :
    Calls Try.prog 17 #[.pointer (some ⟨p, 0, none⟩), ov x] w (RIns w B p v N L x) := by
  obtain ⟨i0, hi0, hz0, hz1, hz2⟩ := info_parts info31
  have HI := Lib.hid hi0
  have HZ0 := Lib.hid hz0
  have HZ1 := Lib.hid hz1
  have HZ2 := Lib.hid hz2
  clear hi0 hz0 hz1 hz2
  have hlen := h.len
  obtain ⟨A, c, rfl, hops⟩ := h.own.ops h.short
  have hcl := hops.le
  have hcm := hops.max
  have hb1 : Below w.heap.size w (w.alloc (.cells (oc x).toArray 31)) := (Below.refl _ w).alloc (Nat.le_refl _) _
  have hBk := Blk.new w 31 (oc x).toArray
  obtain ⟨w1, hw1⟩ : ∃ w1, w1 = w.alloc (.cells (oc x).toArray 31) := ⟨_, rfl⟩
  rw [← hw1] at hb1 hBk
  have HM := Lib.hid h
  have HW := Lib.hid hw1
  have HB1 := Lib.hid hb1
  have HBk := Lib.hid hBk
  have HM1 := Lib.hid (h.below hb1)
  have HO := Lib.hid hops
  have HBw := Lib.hid hB
  have HXs := Lib.hid hxs
  obtain ⟨x0, x1, _, _, _, _, _, _, _, _, _⟩ := blk11 hBk
  unfold oc at HW
  clear hw1 hb1 hBk h hops hB hxs
  unfold ov
  generalize hQ : RIns w B p (.slice A L.length c) N L x = Q
  have HQ := Lib.hid hQ
  clear hQ
  go_enter Try.func17, Try.ntmps17
  go_wp2_with fail
  rw [← HW.out]
  cases hr : rightS x.st with
  | false =>
    have HR := Lib.hid hr
    go_wp2_with (go_at_call 33; refine (rright_st _ _).mono ?_; rintro e w2 ⟨rfl, hb2⟩; rw [HR.out]; have HB2 := Lib.hid hb2; clear hb2)
    rw [← HQ.out]
    have hc : codeO L x = 20 := by unfold codeO; rw [HR.out]; rfl
    refine ⟨.slice A L.length c, N, by rw [hc]; rfl, ?_, gb_of_below (HB1.out.trans (HB2.out.mono HB1.out.size)) _, fun g hg => .inl hg, fun h0 => by omega, fun _ => rfl⟩
    have : insO L x = L := by unfold insO; rw [if_neg (by omega)]
    rw [this]
    exact HM1.out.below HB2.out
  | true =>
    have HR := Lib.hid hr
    go_wp2_with (go_at_call 33; refine (rright_st _ _).mono ?_; rintro e w2 ⟨rfl, hb2⟩; rw [HR.out]; have HB2 := Lib.hid (HB1.out.trans (hb2.mono HB1.out.size)); have HBk2 := Lib.hid (HBk.out.below hb2 HBk.out.lt); clear hb2)
    clear x0 x1 hr
    go_loopw [5, 6] (fun a i wr => ∃ k : Nat, k ≤ L.length ∧ i = .int .i64 (k : Int) ∧ a = .int .i64 ((min k (atO L x.st) : Nat) : Int) ∧ RowKit.Hid (∀ j (hj : j < L.length), j < k → L[j].st ≠ x.st) ∧ RowKit.Hid (Below w.heap.size w wr) ∧ RowKit.Hid (Blk wr w.heap.size 31 (oc x).toArray)) (fun _ i _ => L.length - (intOf i).toNat)
    case atStart => exact ⟨0, Nat.zero_le _, rfl, by simp, Lib.hid (fun j _ h => by omega), HB2, HBk2⟩
    case round =>
      obtain ⟨k, hk, rfl, rfl, HNo, HBr, HX⟩ := hrel
      have HMr := Lib.hid (HM.out.below HBr.out)
      have c0 : wr.cell? ⟨p, 0, none⟩ = some (.slice A L.length c) := by rw [HMr.out.blk.cell]; rfl
      rcases Nat.lt_or_ge k L.length with hlt | hge
      · have hki : (k : Int) < (L.length : Int) := by omega
        obtain ⟨b, off, rfl, _, d0, d1, _⟩ := Ops.at_ (HO.out.below HBr.out) hlt
        obtain ⟨x0, x1, _, _, _, _, _, _, _, _, _⟩ := blk11 HX.out
        have hss : Sorted L := HM.out.sorted
        have hatl := atO_le L x.st
        obtain ⟨at_, hat⟩ : ∃ a, a = atO L x.st := ⟨_, rfl⟩
        have hless : lessS L[k].st x.st = true → min (k + 1) at_ = k + 1 := fun hl => by
          have : ¬ at_ ≤ k := fun hle => by rw [hat] at hle; rw [atO_ge hss hlt hle] at hl; cases hl
          omega
        have hnles : lessS L[k].st x.st = false → min (k + 1) at_ = min k at_ := fun hl => by
          have : ¬ k < at_ := fun h2 => by rw [hat] at h2; rw [atO_lt hlt h2] at hl; cases hl
          omega
        have hno : L[k].st ≠ x.st → ∀ j (hj : j < L.length), j < k + 1 → L[j].st ≠ x.st := fun h j hj h1 => by
          rcases Nat.lt_or_ge j k with h2 | h2
          · exact HNo.out j hj h2
          · obtain rfl : j = k := by omega
            exact h
        have hyes : L[k].st = x.st → hasO L x.st = true := fun h => (hasO_iff hss).2 ⟨_, List.getElem_mem hlt, h⟩
        rw [← hat]
        obtain ⟨y, hy⟩ : ∃ y, y = L[k] := ⟨_, rfl⟩
        rw [← hy] at d0 d1 hless hnles hno hyes
        have he := run_eql_st y.st x.st
        have HAt := Lib.hid hat
        have HLe := Lib.hid hless
        have HNl := Lib.hid hnles
        have HN := Lib.hid hno
        have HYs := Lib.hid hyes
        have k0 := fun u : After wr => u.cell d0
        have k1 := fun u : After wr => u.cell d1
        have k2 := fun u : After wr => u.cell x0
        have k3 := fun u : After wr => u.cell x1
        have k4 := fun u : After wr => u.cell c0
        unfold sv at he
        clear hat hless hnles hno hyes hss hatl hy d0 d1 x0 x1 c0
        have c0 : wr.cell? ⟨p, 0, none⟩ = some (.slice (some ⟨b, off, none⟩) L.length c) := by rw [HMr.out.blk.cell]; rfl
        cases hq : decide (y.st = x.st) with
        | true =>
          have hq' := of_decide_eq_true hq
          have HC := Lib.hid (HYs.out hq')
          simp only [hq] at he
          clear hq hq'
          go_upto_region 7 with (fail)
          clear c0
          refine wp_region_after (by kernel_rfl) (by kernel_rfl) ?_
          repeat (go_big_quiet_step (fail))
          refine wpQuiet_nil ?_
          rintro _ ⟨u, rfl⟩
          have HU := Lib.hid (HBr.out.trans (u.below.mono HBr.out.size))
          clear k0 k1 k2 k3 k4
          go_wp2_with fail
          rw [← HQ.out]
          have hc : codeO L x = 24 := by unfold codeO; rw [HR.out, HC.out]; rfl
          refine ⟨.slice (some ⟨b, off, none⟩) L.length c, N, by rw [hc]; rfl, ?_, gb_of_below HU.out _, fun g hg => .inl hg, fun h0 => by omega, fun _ => rfl⟩
          have : insO L x = L := by unfold insO; rw [if_neg (by omega)]
          rw [this]
          exact HM.out.below HU.out
        | false =>
          have hq' := of_decide_eq_false hq
          have HN1 := Lib.hid (HN.out hq')
          simp only [hq] at he
          clear hq hq'
          go_upto_region 7 with (fail)
          clear c0
          refine wp_region_after (by kernel_rfl) (by kernel_rfl) ?_
          repeat (go_big_quiet_step (fail))
          refine wpQuiet_nil ?_
          rintro _ ⟨u, rfl⟩
          have HU := Lib.hid (HBr.out.trans (u.below.mono HBr.out.size))
          have c0 := k4 u
          have m0 := k0 u
          have m1 := k1 u
          have m2 := k2 u
          have m3 := k3 u
          have HX2 := Lib.hid (HX.out.below u.below HX.out.lt)
          clear k0 k1 k2 k3 k4
          obtain ⟨w3, hw3⟩ : ∃ w3, w3 = u.wd := ⟨_, rfl⟩
          rw [← hw3] at c0 m0 m1 m2 m3 HX2 HU ⊢
          clear hw3 u
          have k0 := fun u : After w3 => u.cell m0
          have k1 := fun u : After w3 => u.cell m1
          have k2 := fun u : After w3 => u.cell m2
          have k3 := fun u : After w3 => u.cell m3
          have k4 := fun u : After w3 => u.cell c0
          clear m0 m1 m2 m3
          cases hl : lessS y.st x.st with
          | true =>
            have HE := Lib.hid (HLe.out hl)
            have HL := Lib.hid hl
            clear hl
            go_upto_region 9 with (fail)
            clear c0
            refine wp_region_after (by kernel_rfl) (by kernel_rfl) ?_
            repeat (go_big_quiet_step ((go_at_call 34; exact after_rless _ HL.out)))
            refine wpQuiet_nil ?_
            rintro _ ⟨u, rfl⟩
            have HU2 := Lib.hid (HU.out.trans (u.below.mono HU.out.size))
            have HX3 := Lib.hid (HX2.out.below u.below HX2.out.lt)
            clear k0 k1 k2 k3 k4
            go_wp2_with fail
            exact ⟨⟨k + 1, by omega, by go_num, by rw [HE.out]; go_num, HN1, HU2, HX3⟩, by simp [intOf]; omega⟩
          | false =>
            have HE := Lib.hid (HNl.out hl)
            have HL := Lib.hid hl
            clear hl
            go_upto_region 9 with (fail)
            clear c0
            refine wp_region_after (by kernel_rfl) (by kernel_rfl) ?_
            repeat (go_big_quiet_step ((go_at_call 34; exact after_rless _ HL.out)))
            refine wpQuiet_nil ?_
            rintro _ ⟨u, rfl⟩
            have HU2 := Lib.hid (HU.out.trans (u.below.mono HU.out.size))
            have HX3 := Lib.hid (HX2.out.below u.below HX2.out.lt)
            clear k0 k1 k2 k3 k4
            go_wp2_with fail
            exact ⟨⟨k + 1, by omega, by go_num, by rw [HE.out], HN1, HU2, HX3⟩, by simp [intOf]; omega⟩
      · obtain rfl : k = L.length := by omega
        obtain ⟨at_, hat⟩ : ∃ a, a = atO L x.st := ⟨_, rfl⟩
        have hatl : at_ ≤ L.length := by rw [hat]; exact atO_le L x.st
        rw [← hat, Nat.min_eq_right hatl]
        have hno : hasO L x.st = false := by
          cases hh : hasO L x.st with
          | false => rfl
          | true =>
            obtain ⟨y, hy, hys⟩ := (hasO_iff HM.out.sorted).1 hh
            obtain ⟨j, hj, rfl⟩ := List.getElem_of_mem hy
            exact absurd hys (HNo.out j hj hj)
        have HH := Lib.hid hno
        have HAt := Lib.hid hat
        clear hno hat
        have hend : ¬ (L.length : Int) < (L.length : Int) := by omega
        by_cases hbig : L.length ≥ 400
        · have hd : decide ((L.length : Int) ≥ 400) = true := by simp; omega
          go_wp2_with fail
          rw [← HQ.out]
          have hc : codeO L x = 40 := by unfold codeO; rw [HR.out, HH.out]; simp [hbig]
          refine ⟨.slice A L.length c, N, by rw [hc], ?_, gb_of_below HBr.out _, fun g hg => .inl hg, fun h0 => by omega, fun _ => rfl⟩
          have : insO L x = L := by unfold insO; rw [if_neg (by omega)]
          rw [this]
          exact HMr.out
        · have hd : decide ((L.length : Int) ≥ 400) = false := by simp; omega
          have c1 : wr.cell? ⟨p, 1, none⟩ = some (.int .i64 N) := by rw [HMr.out.blk.cell]; rfl
          have f1 := HMr.out.blk.frozen 1
          have hnp : w.heap.size ≠ p := fun e => by have := HM.out.blk.lt; omega
          have B4 := Lib.hid (show Blk (wr.setCell ⟨p, 1, none⟩ (.int .i64 ((L.length : Int) - (at_ : Int)))) p 43 #[.slice A L.length c, .int .i64 ((L.length : Int) - (at_ : Int))] from by
            have := Blk.set_ HMr.out.blk 1 (.int .i64 ((L.length : Int) - (at_ : Int)))
            simpa using this)
          have X4 := Lib.hid (Blk.far HX.out (p := ⟨p, 1, none⟩) hnp (.int .i64 ((L.length : Int) - (at_ : Int))))
          have O4 := Lib.hid (OwnC.apart HMr.out.own HMr.out.nep (.int .i64 ((L.length : Int) - (at_ : Int))) 1)
          have G4 := Lib.hid (gb_setCell (gb_of_below HBr.out (some p)) (p := ⟨p, 1, none⟩) (.inl rfl) (.int .i64 ((L.length : Int) - (at_ : Int))))
          go_upto_region 15 with (fail)
          clear c0 c1 f1 hd hend hnp
          obtain ⟨w4, hw4⟩ : ∃ w4, w4 = wr.setCell ⟨p, 1, none⟩ (.int .i64 ((L.length : Int) - (at_ : Int))) := ⟨_, rfl⟩
          rw [← hw4] at B4 X4 O4 G4 ⊢
          clear hw4
          obtain ⟨A', c', eA, hops4⟩ := OwnO.ops O4.out HM.out.short
          cases eA
          have HO4 := Lib.hid hops4
          clear hops4
          have c0 : w4.cell? ⟨p, 0, none⟩ = some (.slice A L.length c) := by rw [B4.out.cell]; rfl
          have HR0 := Lib.hid (RowO.nil_ (B := w4.heap.size) (w0 := w4) (Below.refl _ _) (Nat.le_refl _))
          go_wp2_with (refine wpList_take_ops w4 rfl (.tmp 65) (.tmp 66) rfl A L.length c at_ L rfl rfl HO4.out hatl ?_)
          intro v5 hs5
          have HS5 := Lib.hid hs5
          clear hs5
          go_wp2_with (at_builtin; refine wpList_append_C _ rfl (.tmp 61) (.tmp 67) 39 39 rfl 31 i0 (.agg #[.int .i64 0, .int .i64 0, .int .i64 0, .int .i64 0, .int .i64 0, .int .i64 0, .bool false, .int .i64 0, .int .i64 0, .string ⟨#[]⟩, .string ⟨#[]⟩]) 11 Try.underlying39 HI.out HZ0.out HZ1.out rfl (by decide) w4.heap.size _ 0 ([]) rfl HR0.out.own _ rfl at_ (ocs (L.take at_)) HS5.out (by unfold maxLen; omega) (by rw [HZ2.out]; omega) (Nat.le_refl _) ?_)
          intro v6 w6 ho6 hg6 hat6
          obtain ⟨A6, cp6, rfl⟩ := OwnC.isSlice ho6
          have HR6 := Lib.hid (HR0.out.more (ys := []) (zs := L.take at_) (m := at_) (by rw [List.length_take]; omega) (by rw [show ([] : List TOp).length + at_ = at_ from Nat.zero_add _]; exact ho6) hg6)
          have HX6 := Lib.hid (X4.out.below HR6.out.below X4.out.lt)
          clear ho6 hg6 hat6 c0
          rw [List.nil_append] at HR6
          have hl6 : (L.take at_).length = at_ := by rw [List.length_take]; omega
          have HO6 := Lib.hid (show OwnC (w6.alloc (.cells (oc x).toArray 31)) w4.heap.size 11 (.slice A6 at_ cp6) at_ (ocs (L.take at_)) from by
            have := (HR6.out.alloc (.cells (oc x).toArray 31)).own
            unfold OwnO at this
            rw [hl6] at this
            exact this)
          obtain ⟨x0, x1, x2, x3, x4, x5, x6, x7, x8, x9, x10⟩ := blk11 HX6.out
          go_wp2_with (at_builtin; refine wpList_append_C _ rfl (.tmp 69) (.tmp 71) 39 39 rfl 31 i0 (.agg #[.int .i64 0, .int .i64 0, .int .i64 0, .int .i64 0, .int .i64 0, .int .i64 0, .bool false, .int .i64 0, .int .i64 0, .string ⟨#[]⟩, .string ⟨#[]⟩]) 11 Try.underlying39 HI.out HZ0.out HZ1.out rfl (by decide) w4.heap.size _ at_ (ocs (L.take at_)) rfl HO6.out _ rfl 1 (ocs [x]) (Src.op x (Blk.new w6 31 (oc x).toArray)) (by unfold maxLen; omega) (by rw [HZ2.out]; omega) (Nat.le_trans HR6.out.le (by simp)) ?_)
          intro v7 w7 ho7 hg7 hat7
          obtain ⟨A7, cp7, rfl⟩ := OwnC.isSlice ho7
          have HR7 := Lib.hid (RowO.more (zs := [x]) (m := 1) (HR6.out.alloc _) rfl (by rw [hl6]; exact ho7) hg7)
          clear ho7 hg7 hat7 x0 x1 x2 x3 x4 x5 x6 x7 x8 x9 x10
          have hl7 : (L.take at_ ++ [x]).length = at_ + 1 := by rw [List.length_append, hl6]; rfl
          have HO7 := Lib.hid (show OwnC w7 w4.heap.size 11 (.slice A7 (at_ + 1) cp7) (at_ + 1) (ocs (L.take at_ ++ [x])) from by
            have := HR7.out.own
            unfold OwnO at this
            rw [hl7] at this
            exact this)
          have HL7 := Lib.hid (HO4.out.below HR7.out.below)
          have c0 : w7.cell? ⟨p, 0, none⟩ = some (.slice A L.length c) := by rw [(B4.out.below HR7.out.below B4.out.lt).cell]; rfl
          go_wp2_with (refine wpList_drop_ops w7 rfl (.tmp 78) (.tmp 79) rfl A L.length c at_ L rfl rfl HL7.out hatl ?_)
          intro v8 hs8
          have HS8 := Lib.hid hs8
          clear hs8 c0
          go_wp2_with (at_builtin; refine wpList_append_C _ rfl (.tmp 74) (.tmp 80) 39 39 rfl 31 i0 (.agg #[.int .i64 0, .int .i64 0, .int .i64 0, .int .i64 0, .int .i64 0, .int .i64 0, .bool false, .int .i64 0, .int .i64 0, .string ⟨#[]⟩, .string ⟨#[]⟩]) 11 Try.underlying39 HI.out HZ0.out HZ1.out rfl (by decide) w4.heap.size _ (at_ + 1) (ocs (L.take at_ ++ [x])) rfl HO7.out _ rfl (L.length - at_) (ocs (L.drop at_)) HS8.out (by unfold maxLen; omega) (by rw [HZ2.out]; omega) HR7.out.le ?_)
          intro v9 w9 ho9 hg9 hat9
          obtain ⟨A9, cp9, rfl⟩ := OwnC.isSlice ho9
          have HR9 := Lib.hid (RowO.more (zs := L.drop at_) (m := L.length - at_) HR7.out (by rw [List.length_drop]) (by rw [hl7]; exact ho9) hg9)
          clear ho9 hg9 hat9
          have HB9 := Lib.hid (B4.out.below HR9.out.below B4.out.lt)
          have c0 : w9.cell? ⟨p, 0, none⟩ = some (.slice A L.length c) := by rw [HB9.out.cell]; rfl
          have f0 := HB9.out.frozen 0
          go_wp2_with fail
          rw [← HQ.out]
          have hc : codeO L x = 0 := codeO_zero.2 ⟨HR.out, HH.out, by omega⟩
          have hins : insO L x = L.take at_ ++ [x] ++ L.drop at_ := by
            unfold insO addO
            rw [if_pos hc, ← HAt.out, List.append_assoc]
            rfl
          have hl9 : (L.take at_ ++ [x] ++ L.drop at_).length = L.length + 1 := by rw [List.length_append, hl7, List.length_drop]; omega
          have he9 : at_ + 1 + (L.length - at_) = L.length + 1 := by omega
          rw [he9] at HR9 ⊢
          have hne9 : (Value.slice A9 (L.length + 1) cp9).ownBlock ≠ some p := fun e => by
            have h1 := (OwnC.ge HR9.out.own _ e).1
            have h2 := B4.out.lt
            omega
          have hB9 : Blk (w9.setCell ⟨p, 0, none⟩ (.slice A9 (L.length + 1) cp9)) p 43 #[.slice A9 (L.length + 1) cp9, .int .i64 ((L.length : Int) - (at_ : Int))] := by
            have := Blk.set_ HB9.out 0 (.slice A9 (L.length + 1) cp9)
            simpa using this
          have hown9 : OwnO (w9.setCell ⟨p, 0, none⟩ (.slice A9 (L.length + 1) cp9)) B (.slice A9 (L.length + 1) cp9) (L.take at_ ++ [x] ++ L.drop at_) := by
            have h1 := OwnC.apart HR9.out.own hne9 (.slice A9 (L.length + 1) cp9) 0
            refine ⟨h1.1, ?_⟩
            rcases h1.2 with h2 | ⟨g, cap, e, hb, r⟩
            · exact .inl h2
            · exact .inr ⟨g, cap, e, by have := HBw.out; have := G4.out.size; omega, r⟩
          have hsh9 : ShortO (L.take at_ ++ [x] ++ L.drop at_) := fun y hy => by
            rcases List.mem_append.1 hy with hy | hy
            · rcases List.mem_append.1 hy with hy | hy
              · exact HM.out.short y (List.mem_of_mem_take hy)
              · rw [List.mem_singleton.1 hy]; exact HXs.out
            · exact HM.out.short y (List.mem_of_mem_drop hy)
          refine ⟨.slice A9 (L.length + 1) cp9, (L.length : Int) - (at_ : Int), by rw [hc]; rfl, ?_, gb_setCell (gb_below G4.out HR9.out.below) (.inl rfl) _, fun g hg => .inr (by have h1 := (OwnC.ge HR9.out.own _ hg).1; have h2 := G4.out.size; omega), fun _ => by rw [HAt.out], fun h => absurd hc h⟩
          rw [hins]
          exact ⟨hB9, hown9, hne9, by rw [← hins]; exact insO_sorted HM.out.sorted x, by rw [hl9]; omega, hsh9, HM.out.p_ge⟩

set_option maxRecDepth 100000 in
set_option maxHeartbeats 1600000 in
theorem rnodes_st (B p : Nat) (v : Value) (N : Int) (L : List TOp) (w : World) (h : RefS w B p v N L) : Calls Try.prog 21 #[.pointer (some ⟨p, 0, none⟩)] w (Done w (foldN L)) := by
  have hlen := h.len
  obtain ⟨A, c, rfl, hops⟩ := h.own.ops h.short
  have c0 : w.cell? ⟨p, 0, none⟩ = some (.slice A L.length c) := by rw [h.blk.cell]; rfl
  have HF := Lib.hid (rfold_any A L.length c L w hops (by omega))
  clear h hops
  go_enter Try.func21, Try.ntmps21
  go_wp2_with fail
  refine HF.out.mono ?_
  rintro e w2 ⟨A2, c2, rfl, hn, hb⟩
  have HN := Lib.hid hn
  have HB := Lib.hid hb
  clear hn hb
  go_wp2_with fail
  go_ret
  exact ⟨_, _, rfl, HN.out, HB.out⟩
end Go.Proofs.Ytaglomhmnoldlaa
