/- The law on the order of packets. -/
import Derived.Test.YtnefjmgpbbgifaaD
namespace Go.Proofs.Ytnefjmgpbbgifaa
open Go.RowKit
attribute [local go_sem] bs_size bs_getElem bs_list bs_append

/-- a packet's cells, as they are handed in -/
def PkC (cs : List Value) (x : Pk) : Prop := cs = pc x ∧ x.d.length ≤ 9223372036854775807
instance : Inhabited Pk := ⟨pk0⟩
theorem Sl.pk_at {w : World} {A : Option Addr} {n c k : Nat} {xs : List Pk} (h : Sl w 3 PkC A n c xs) (hk : k < xs.length) :
    ∃ b off, A = some ⟨b, off, none⟩ ∧ b < w.heap.size ∧ w.cell? ⟨b, off + k * 3, none⟩ = some (.int .i64 xs[k].f) ∧ w.cell? ⟨b, off + k * 3 + 1, none⟩ = some (.int .i64 xs[k].t) ∧ w.cell? ⟨b, off + k * 3 + 2, none⟩ = some (.string (bs xs[k].d)) ∧ xs[k].d.length ≤ 9223372036854775807 := by
  obtain ⟨b, off, cs, e, hlt, hl, ⟨rfl, hr⟩, hc⟩ := h.4 k hk
  exact ⟨b, off, e, hlt, by have := hc 0 _ rfl; simpa using this, hc 1 _ rfl, hc 2 _ rfl, hr⟩

/-- what a net of d devices takes up -/
def okPk (d : Int) (x : Pk) : Bool := decide ((0 ≤ x.f ∧ x.f < d) ∧ (0 ≤ x.t ∧ x.t < d) ∧ x.f ≠ x.t ∧ x.d.length ≤ 60000)

theorem send_ok {B : Nat} {w0 w : World} {gN : Nat} {d s : Int} {v : Value} {ps : List Pk} (x : Pk) (h : Net B w0 w gN d s v ps) (hs0 : 0 ≤ s) (hs1 : s ≤ 1000000) (hm : ps.length < 500) (hx : x.d.length ≤ 9223372036854775807) (hok : okPk d x = true) :
    Calls Try.prog 11 #[.pointer (some ⟨gN, 0, none⟩), pv x] w fun e w' => ∃ v', e = .returned (.int .i64 0) ∧ Net B w0 w' gN d (s + 1) v' (ps ++ [x]) ∧ Keeps (NS gN v) w w' ∧ (v'.ownBlock = v.ownBlock ∨ ∃ g, v'.ownBlock = some g ∧ w.heap.size ≤ g) := by
  obtain ⟨h1, h2, h3, h4⟩ := of_decide_eq_true hok
  refine (send_rest gN d s v ps x w h.net h1 h2 h3 hs0 hs1 (by omega) hx).mono ?_
  rintro e w' ⟨v', rfl, hN, hk, hv⟩
  rw [if_neg (by omega), if_neg (by omega)] at hN ⊢
  exact ⟨v', rfl, h.step hN hk hv, hk, hv⟩

theorem send_no {B : Nat} {w0 w : World} {gN : Nat} {d s : Int} {v : Value} {ps : List Pk} (x : Pk) (h : Net B w0 w gN d s v ps) (hs0 : 0 ≤ s) (hs1 : s ≤ 1000000) (hm : ps.length < 500) (hx : x.d.length ≤ 9223372036854775807) (hok : okPk d x = false) :
    Calls Try.prog 11 #[.pointer (some ⟨gN, 0, none⟩), pv x] w fun e w' => ∃ v' c, (c == (0 : Int)) = false ∧ e = .returned (.int .i64 c) ∧ Net B w0 w' gN d s v' ps ∧ Keeps (NS gN v) w w' ∧ (v'.ownBlock = v.ownBlock ∨ ∃ g, v'.ownBlock = some g ∧ w.heap.size ≤ g) := by
  have hno := of_decide_eq_false hok
  by_cases hb : ¬ (0 ≤ x.f ∧ x.f < d) ∨ ¬ (0 ≤ x.t ∧ x.t < d) ∨ x.f = x.t
  · refine (send_bad gN d s v ps x w h.net hb).mono ?_
    rintro e w' ⟨rfl, hb⟩
    exact ⟨v, 1, by decide, rfl, h.stay hb, kp_below hb, Or.inl rfl⟩
  · have h1 : 0 ≤ x.f ∧ x.f < d := Decidable.byContradiction fun hh => hb (Or.inl hh)
    have h2 : 0 ≤ x.t ∧ x.t < d := Decidable.byContradiction fun hh => hb (Or.inr (Or.inl hh))
    have h3 : x.f ≠ x.t := fun hh => hb (Or.inr (Or.inr hh))
    have h4 : x.d.length > 60000 := Decidable.byContradiction fun hh => hno ⟨h1, h2, h3, by omega⟩
    refine (send_rest gN d s v ps x w h.net h1 h2 h3 hs0 hs1 (by omega) hx).mono ?_
    rintro e w' ⟨v', rfl, hN, hk, hv⟩
    rw [if_pos (Or.inl h4), if_pos (Or.inl h4)] at hN
    exact ⟨v', 40, by decide, by rw [if_pos h4], h.step hN hk hv, hk, hv⟩

/-- a list of one's own beside a net -/
structure Mine (B : Nat) (w : World) (gN : Nat) (v u : Value) (ys : List Pk) : Prop where
  own : w.ownsRow 0 30 3 u ys.length (pcs ys)
  apart : ∀ g, u.ownBlock = some g → ¬ NS gN v g
  base : ∀ g, u.ownBlock = some g → B ≤ g
section
variable {B : Nat} {w w' : World} {gN : Nat} {v v' u : Value} {ys : List Pk}
theorem Mine.step (h : Mine B w gN v u ys) (hk : Keeps (NS gN v) w w') (hv : v'.ownBlock = v.ownBlock ∨ ∃ g, v'.ownBlock = some g ∧ w.heap.size ≤ g) : Mine B w' gN v' u ys :=
  ⟨own_kp h.own hk (fun g hg => h.apart g hg), fun g hg hn => by
    rcases hn with hn | hn
    · exact h.apart g hg (Or.inl hn)
    · rcases hv with h1 | ⟨g', h1, h2⟩
      · exact h.apart g hg (Or.inr (by rw [← h1]; exact hn))
      · rw [h1] at hn; cases hn
        have := own_lt h.own hg; omega, h.base⟩
theorem Net.kp {S : Nat → Prop} {w0 : World} {d s : Int} {ps : List Pk} (h : Net B w0 w gN d s v ps) (k : Keeps S w w') (hS : ∀ i, S i → ¬ NS gN v i ∧ B ≤ i) : Net B w0 w' gN d s v ps :=
  ⟨h.net.kp k (fun i hi => (hS i hi).1), kp_below_of h.below k (fun i hi => (hS i hi).2) h.sz, h.base, h.own, Nat.le_trans h.sz k.size⟩
theorem Mine.at (h : Mine B w gN v u ys) {k : Nat} (hk : k < ys.length) : ∃ g cap, u = .slice (some ⟨g, 0, none⟩) ys.length cap ∧ g < w.heap.size ∧
    w.cell? ⟨g, k * 3, none⟩ = some (.int .i64 ys[k].f) ∧ w.cell? ⟨g, k * 3 + 1, none⟩ = some (.int .i64 ys[k].t) ∧ w.cell? ⟨g, k * 3 + 2, none⟩ = some (.string (bs ys[k].d)) := by
  rcases h.own.2 with ⟨_, e2⟩ | ⟨g, cap, cur, rfl, _, hh, hle, hmx, hsz, htk⟩
  · omega
  · have hB : Blk w g 30 cur := hh
    have key : ∀ j, j < 3 → w.cell? ⟨g, k * 3 + j, none⟩ = (pc ys[k])[j]? := fun j hj => by
      rw [hB.cell, ← pcs_at ys k j hk hj, ← htk, List.getElem?_take_of_lt (by omega), Array.getElem?_toList]
    exact ⟨g, cap, rfl, hB.lt, key 0 (by omega), key 1 (by omega), key 2 (by omega)⟩
theorem Mine.slice (h : Mine B w gN v u ys) : ∃ A c, u = .slice A ys.length c := by
  rcases h.own.2 with ⟨e, e2⟩ | ⟨g, cap, cur, e, _⟩
  · exact ⟨none, 0, by rw [e, e2]⟩
  · exact ⟨_, cap, e⟩
end

set_option maxRecDepth 100000 in
set_option maxHeartbeats 3200000 in
theorem law_order (A : Option Addr) (n c : Nat) (xs : List Pk) (w : World) (hx : Sl w 3 PkC A n c xs) :
    Calls Try.prog 3 #[.slice A n c] w fun e w' => e = .returned (.bool true) ∧ Below w.heap.size w w' := by
  have hn := hx.len
  have hmx := hx.max
  have hle := hx.le
  by_cases hbig : n > 100
  · have hd : decide ((n : Int) > 100) = true := decide_eq_true (by omega)
    go_enter Try.func3, Try.ntmps3
    go_wp2_with fail
    refine (new_ok 15 (by decide) (by decide) _).mono ?_
    rintro e w1 ⟨gN, rfl, hN, hb, hge⟩
    have HB := Lib.hid hb
    clear hN hb
    go_wp2_with fail
    refine (awake_any _).mono ?_
    rintro e w9 ⟨rfl, hb9⟩
    have hb10 := HB.out.trans (hb9.mono HB.out.size)
    go_wp2_with fail
    go_ret
    exact ⟨rfl, hb10⟩
  have hd : decide ((n : Int) > 100) = false := decide_eq_false (by omega)
  obtain ⟨i0, hi0, hz0, hz1, hz2⟩ := info_parts info30
  have HX := Lib.hid hx
  clear hx
  go_enter Try.func3, Try.ntmps3
  go_wp2_with fail
  refine (new_ok 15 (by decide) (by decide) _).mono ?_
  rintro e w1 ⟨gN, rfl, hN, hb, hge⟩
  have hN1 : Net w.heap.size w w1 gN 15 (([] : List Pk).length) _ [] := ⟨hN, hb, hge, fun g hg => by simp [Value.ownBlock] at hg, hb.size⟩
  have H1 := Lib.hid hN1
  clear hN hb hN1
  go_wp2_with fail
  go_loopw [5, 6] (fun u i wr => ∃ (k : Nat) (v : Value), k ≤ n ∧ i = .int .i64 k ∧ Net w.heap.size w wr gN 15 (((xs.take k).filter (okPk 15)).length) v ((xs.take k).filter (okPk 15)) ∧ Mine w.heap.size wr gN v u ((xs.take k).filter (okPk 15))) (fun _ i _ => n - (intOf i).toNat)
  case atStart => exact ⟨0, _, by omega, rfl, H1.out, ⟨⟨by simp [pcs], .inl ⟨rfl, rfl⟩⟩, fun g hg => by simp [Value.ownBlock] at hg, fun g hg => by simp [Value.ownBlock] at hg⟩⟩
  case round =>
    obtain ⟨k, v, hk, rfl, hR, hM⟩ := hrel
    rcases Nat.lt_or_ge k n with hlt | hge'
    · have hkl : k < xs.length := by omega
      obtain ⟨b, off, rfl, hbl, c0, c1, c2, hdl⟩ := Sl.pk_at HX.out hkl
      have hfl : ((xs.take k).filter (okPk 15)).length ≤ k := Nat.le_trans (List.length_filter_le _ _) (by rw [List.length_take]; omega)
      have htk := List.take_succ_eq_append_getElem hkl
      have hbel := hR.below
      have d0 := cell_below hbel hbl c0
      have d1 := cell_below hbel hbl c1
      have d2 := cell_below hbel hbl c2
      obtain ⟨A2, c2', rfl⟩ := hM.slice
      generalize hps : (xs.take k).filter (okPk 15) = ps at *
      generalize xs[k] = x at *
      cases hok : okPk 15 x with
      | false =>
        have hnext : (xs.take (k + 1)).filter (okPk 15) = ps := by rw [htk, List.filter_append, hps]; simp [hok]
        have HNx := Lib.hid hnext
        have HS := Lib.hid (send_no x hR (by omega) (by omega) (by omega) hdl hok)
        have HM := Lib.hid hM
        clear hR hM hnext htk hps hbel c0 c1 c2
        go_wp2_with fail
        refine HS.out.mono ?_
        rintro e w2 ⟨v2, cc, hcc, rfl, hN2, hk2, hv2⟩
        have hM2 := HM.out.step hk2 hv2
        have HN2 := Lib.hid hN2
        have HM2 := Lib.hid hM2
        clear hN2 hM2 hk2 hv2
        go_wp2_with fail
        exact ⟨⟨k + 1, v2, by omega, by go_num, by rw [HNx.out]; exact HN2.out, by rw [HNx.out]; exact HM2.out⟩, by simp [intOf]; omega⟩
      | true =>
        have hnext : (xs.take (k + 1)).filter (okPk 15) = ps ++ [x] := by rw [htk, List.filter_append, hps]; simp [hok]
        have HNx := Lib.hid hnext
        have HS := Lib.hid (send_ok x hR (by omega) (by omega) (by omega) hdl hok)
        have HM := Lib.hid hM
        have HC := Lib.hid (And.intro c0 (And.intro c1 c2))
        have HI0 := Lib.hid hi0
        have HZ0 := Lib.hid hz0
        have HZ1 := Lib.hid hz1
        have HZ2 := Lib.hid hz2
        clear hR hM hnext htk hps hbel c0 c1 c2 hi0 hz0 hz1 hz2
        go_wp2_with fail
        refine HS.out.mono ?_
        rintro e w2 ⟨v2, rfl, hN2, hk2, hv2⟩
        have hM2 := HM.out.step hk2 hv2
        have g0 := cell_below hN2.below hbl HC.out.1
        have g1 := cell_below hN2.below hbl HC.out.2.1
        have g2 := cell_below hN2.below hbl HC.out.2.2
        have HN2 := Lib.hid hN2
        have HM2 := Lib.hid hM2
        clear hN2 hM2 hk2 hv2 d0 d1 d2
        go_wp2_with (at_builtin; refine wpList_append_lies _ rfl (.tmp 49) (.tmp 54) 22 rfl 0 30 i0 (.agg #[.int .i64 0, .int .i64 0, .string ⟨#[]⟩]) 3 32 Try.underlying22 HI0.out HZ0.out HZ1.out HZ2.out rfl (by decide) (.slice A2 ps.length c2') ps.length (pcs ps) rfl (own_alloc HM2.out.own _) ⟨w2.heap.size, 0, none⟩ 1 1 [.int .i64 x.f, .int .i64 x.t, .string (bs x.d)] rfl rfl (World.news_of_block (cs := #[.int .i64 x.f, .int .i64 x.t, .string (bs x.d)]) (t := 30) (fr := (0, 0)) (heap_alloc_new w2 _)) ?p1 (by decide) ?p2 ?p3 (Nat.zero_le _) (w2.heap.size + 1) ?p4 ?_)
        case p1 => simp [Value.oneCell']
        case p2 => simp only [maxLen]; omega
        case p3 => omega
        case p4 => simp
        intro g3 cap3 w3 hown3 hgrow3 hat3 hlt3
        have hkp : Keeps (fun i => (Value.slice A2 ps.length c2').ownBlock = some i) w2 w3 :=
          kp_trans (kp_below ((Below.refl _ w2).alloc (Nat.le_refl _) (.cells #[.int .i64 x.f, .int .i64 x.t, .string (bs x.d)] 30))) (kp_grown (S := fun i => (Value.slice A2 ps.length c2').ownBlock = some i) hgrow3 (fun i h => h)) (fun _ _ h => h)
        have hN3 := HN2.out.kp hkp (fun i hi => ⟨HM2.out.apart i hi, HM2.out.base i hi⟩)
        have hM3 : Mine w.heap.size w3 gN v2 (.slice (some ⟨g3, 0, none⟩) (ps.length + 1) cap3) (ps ++ [x]) := by
          refine ⟨?_, fun g hg => ?_, fun g hg => ?_⟩
          · rw [pcs_append, show pcs [x] = [.int .i64 x.f, .int .i64 x.t, .string (bs x.d)] from by simp [pcs, pc]]
            simpa using hown3
          · obtain rfl : g3 = g := by simpa [Value.ownBlock] using hg
            rcases hat3 with h | h
            · exact HM2.out.apart _ h
            · exact not_ns HN2.out.net (by omega)
          · obtain rfl : g3 = g := by simpa [Value.ownBlock] using hg
            rcases hat3 with h | h
            · exact HM2.out.base _ h
            · have := HN2.out.sz; omega
        have HN3 := Lib.hid hN3
        have HM3 := Lib.hid hM3
        clear hN3 hM3 hkp hgrow3 hown3 hat3
        go_wp2_with fail
        exact ⟨⟨k + 1, v2, by omega, by go_num, by rw [HNx.out, List.length_append]; exact HN3.out, by rw [HNx.out]; exact HM3.out⟩, by simp [intOf]; omega⟩
    · obtain rfl : k = n := by omega
      have etk : xs.take k = xs := List.take_of_length_le (by omega)
      rw [etk] at hR hM
      have hfl : (xs.filter (okPk 15)).length ≤ k := Nat.le_trans (List.length_filter_le _ _) (by omega)
      generalize xs.filter (okPk 15) = ys at *
      obtain ⟨A2, c2', rfl⟩ := hM.slice
      have HR := Lib.hid hR
      have HM := Lib.hid hM
      clear hR hM etk
      go_wp2_with fail
      refine (len_is gN _ _ v _ _ HR.out.net).mono ?_
      rintro e w2 ⟨rfl, rfl⟩
      go_wp2_with fail
      refine (sent_is gN _ _ v _ _ HR.out.net).mono ?_
      rintro e w2 ⟨rfl, rfl⟩
      go_wp2_with fail
      go_loopw [7] (fun i wr => ∃ (j : Nat) (v : Value), j ≤ ys.length ∧ i = .int .i64 j ∧ Net w.heap.size w wr gN 15 ys.length v (ys.drop j) ∧ Mine w.heap.size wr gN v (.slice A2 ys.length c2') ys) (fun i _ => ys.length - (intOf i).toNat)
      case atStart => exact ⟨0, v, by omega, rfl, HR.out, HM.out⟩
      case round =>
        obtain ⟨j, v, hj, rfl, hR, hM⟩ := hrel
        rcases Nat.lt_or_ge j ys.length with hjl | hjg
        · have h0 : 0 < (ys.drop j).length := by rw [List.length_drop]; omega
          have hT := take_ok gN _ _ v (ys.drop j) 0 _ hR.net h0 (by rw [List.length_drop]; omega)
          have e0 : (ys.drop j)[0] = ys[j] := by simp
          have e1 : (ys.drop j).eraseIdx 0 = ys.drop (j + 1) := by rw [List.eraseIdx_zero, List.tail_drop]
          rw [e0, e1] at hT
          obtain ⟨y, hy⟩ : ∃ y, ys[j] = y := ⟨_, rfl⟩
          rw [hy] at hT
          have HY := Lib.hid hy
          have HT := Lib.hid hT
          have HR := Lib.hid hR
          have HM := Lib.hid hM
          have hne : ∀ w, (binOp .neq 30 (.agg #[.int .i64 y.f, .int .i64 y.t, .string (bs y.d)]) (.agg #[.int .i64 y.f, .int .i64 y.t, .string (bs y.d)])).run Try.prog w = .ok (.bool false) w := fun w => by simp [go_sem]
          clear hR hM hT h0 e0 e1 hy
          go_wp2_with fail
          refine HT.out.mono ?_
          rintro e w2 ⟨v2, rfl, hN2, hk2, hv2⟩
          have hR2 := HR.out.step hN2 hk2 (Or.inl hv2)
          have hM2 := HM.out.step hk2 (Or.inl hv2)
          have hb3 : Below w2.heap.size w2 (w2.alloc (.cells #[.int .i64 y.f, .int .i64 y.t, .string (bs y.d)] 30)) := (Below.refl _ w2).alloc (Nat.le_refl _) _
          have HR3 := Lib.hid (hR2.stay hb3)
          have hM3 : Mine w.heap.size (w2.alloc (.cells #[.int .i64 y.f, .int .i64 y.t, .string (bs y.d)] 30)) gN v2 (.slice A2 ys.length c2') ys := hM2.step (kp_below hb3) (Or.inl rfl)
          obtain ⟨a0, a1, a2⟩ := blk3 (Blk.new w2 30 #[.int .i64 y.f, .int .i64 y.t, .string (bs y.d)])
          have hat := Mine.at hM3 hjl
          rw [HY.out] at hat
          obtain ⟨g, cap, hge2, hgl, q0, q1, q2⟩ := hat
          cases hge2
          have HM3 := Lib.hid hM3
          clear hM3 hM2 hR2 hb3 hN2 hk2 hv2
          unfold pv
          go_wp2_with fail
          go_quiet (fail)
          have hbq : Below (w2.alloc (.cells #[.int .i64 y.f, .int .i64 y.t, .string (bs y.d)] 30)).heap.size (w2.alloc (.cells #[.int .i64 y.f, .int .i64 y.t, .string (bs y.d)] 30)) ((w2.alloc (.cells #[.int .i64 y.f, .int .i64 y.t, .string (bs y.d)] 30)).drewN nq) := ⟨rfl, rfl, rfl, Nat.le_refl _, fun _ _ => rfl⟩
          have HR4 := Lib.hid (HR3.out.stay hbq)
          have HM4 := Lib.hid (HM3.out.step (kp_below hbq) (Or.inl rfl))
          clear hbq
          go_wp2_with fail
          exact ⟨⟨j + 1, v2, by omega, by go_num, HR4.out, HM4.out⟩, by simp [intOf]; omega⟩
        · obtain rfl : j = ys.length := by omega
          rw [List.drop_length] at hR
          have HR := Lib.hid hR
          clear hR hM
          go_wp2_with fail
          refine (take_bad gN _ _ v [] 0 _ HR.out.net (Or.inr (by decide)) (by decide)).mono ?_
          rintro e w2 ⟨rfl, hb2⟩
          have hR2 := HR.out.stay hb2
          have HR3 := Lib.hid (hR2.stay ((Below.refl _ w2).alloc (Nat.le_refl _) (.cells #[.int .i64 0, .int .i64 0, .string (bs [])] 30)))
          clear hR2 hb2
          unfold pv pk0
          go_wp2_with fail
          refine (awake_any _).mono ?_
          rintro e w3 ⟨rfl, hb3⟩
          have hb4 := (HR3.out.stay hb3).below
          go_wp2_with fail
          go_ret
          exact ⟨rfl, hb4⟩
end Go.Proofs.Ytnefjmgpbbgifaa
