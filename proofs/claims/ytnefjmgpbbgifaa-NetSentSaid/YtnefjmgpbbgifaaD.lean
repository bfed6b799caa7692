/- The walks of Twice, awake. -/
import Derived.Test.YtnefjmgpbbgifaaC3
namespace Go.Proofs.Ytnefjmgpbbgifaa
open Go.RowKit
attribute [local go_sem] bs_size bs_getElem bs_list bs_append

set_option maxRecDepth 100000 in
set_option maxHeartbeats 1600000 in
theorem twice_bad (gN : Nat) (d s : Int) (v : Value) (ps : List Pk) (k : Int) (w : World) (hN : NetI w gN d s v ps) (hk : k < 0 ∨ (ps.length : Int) ≤ k) (hm : ps.length ≤ 1000000) :
    Calls Try.prog 15 #[.pointer (some ⟨gN, 0, none⟩), .int .i64 k] w fun e w' => e = .returned (.int .i64 1) ∧ Below w.heap.size w w' := by
  have HN := Lib.hid hN
  clear hN
  go_enter Try.func15, Try.ntmps15
  go_wp2_with fail
  refine (at_bad gN d s v ps k _ HN.out hk hm).mono ?_
  rintro e w2 ⟨rfl, hb2⟩
  have hb3 := hb2.alloc hb2.size (.cells #[.int .i64 0, .int .i64 0, .string (bs [])] 30)
  unfold pv pk0
  go_wp2_with fail
  go_ret
  exact ⟨rfl, hb3⟩

set_option maxRecDepth 100000 in
set_option maxHeartbeats 1600000 in
theorem twice_ok (gN : Nat) (d s : Int) (v : Value) (ps : List Pk) (k : Nat) (w : World) (hN : NetI w gN d s v ps) (hk : k < ps.length) (hm : ps.length ≤ 1000000) :
    Calls Try.prog 15 #[.pointer (some ⟨gN, 0, none⟩), .int .i64 k] w fun e w' => ∃ v', e = .returned (.int .i64 (if 500 ≤ ps.length then 41 else 0)) ∧ NetI w' gN d s v' (if 500 ≤ ps.length then ps else ps ++ [ps[k]]) ∧ Keeps (NS gN v) w w' ∧ (v'.ownBlock = v.ownBlock ∨ ∃ g, v'.ownBlock = some g ∧ w.heap.size ≤ g) := by
  obtain ⟨x, hx⟩ : ∃ x, ps[k] = x := ⟨_, rfl⟩
  have hat := at_ok gN d s v ps k _ hN hk hm
  rw [hx] at hat ⊢
  have HAt := Lib.hid hat
  have HN := Lib.hid hN
  clear hN hat hx
  by_cases hfull : 500 ≤ ps.length
  · simp only [hfull, if_true]
    go_enter Try.func15, Try.ntmps15
    go_wp2_with fail
    refine HAt.out.mono ?_
    rintro e w2 ⟨rfl, hb2⟩
    have hb3 := hb2.alloc hb2.size (.cells #[.int .i64 x.f, .int .i64 x.t, .string (bs x.d)] 30)
    have hN3 := HN.out.below hb3
    have HN3 := Lib.hid hN3
    clear hN3 hb2
    unfold pv
    go_wp2_with fail
    refine (lay_full gN d s v ps x _ HN3.out hfull hm).mono ?_
    rintro e w4 ⟨rfl, hb4⟩
    have hN4 := HN3.out.below hb4
    have hb5 := hb3.trans (hb4.mono hb3.size)
    have HN4 := Lib.hid hN4
    clear hN4 hb4
    go_wp2_with fail
    go_ret
    exact ⟨v, rfl, HN4.out, kp_below hb5, Or.inl rfl⟩
  · simp only [hfull, if_false]
    go_enter Try.func15, Try.ntmps15
    go_wp2_with fail
    refine HAt.out.mono ?_
    rintro e w2 ⟨rfl, hb2⟩
    have hb3 := hb2.alloc hb2.size (.cells #[.int .i64 x.f, .int .i64 x.t, .string (bs x.d)] 30)
    have hN3 := HN.out.below hb3
    have HN3 := Lib.hid hN3
    clear hN3 hb2
    unfold pv
    go_wp2_with fail
    refine (lay_ok gN d s v ps x _ HN3.out (by omega)).mono ?_
    rintro e w4 ⟨v', rfl, hN4, hk4, hv'⟩
    have hk5 := kp_trans (kp_below (S := NS gN v) hb3) hk4 (fun _ _ h => h)
    have hv5 : v'.ownBlock = v.ownBlock ∨ ∃ g, v'.ownBlock = some g ∧ w.heap.size ≤ g := by
      rcases hv' with h | ⟨g, h, hg⟩
      · exact Or.inl h
      · exact Or.inr ⟨g, h, Nat.le_trans hb3.size hg⟩
    have HN4 := Lib.hid hN4
    have HV5 := Lib.hid hv5
    clear hN4 hk4 hv5 hv'
    go_wp2_with fail
    go_ret
    exact ⟨v', rfl, HN4.out, hk5, HV5.out⟩

/-- what one walk keeps: nothing below B has turned, the net lies above -/
structure Net (B : Nat) (w0 w : World) (gN : Nat) (d s : Int) (v : Value) (ps : List Pk) : Prop where
  net : NetI w gN d s v ps
  below : Below B w0 w
  base : B ≤ gN
  own : ∀ g, v.ownBlock = some g → B ≤ g
  sz : B ≤ w.heap.size
section
variable {B : Nat} {w0 w w' : World} {gN : Nat} {d s s' : Int} {v v' : Value} {ps ps' : List Pk}
theorem Net.step (h : Net B w0 w gN d s v ps) (hn : NetI w' gN d s' v' ps') (hk : Keeps (NS gN v) w w') (hv : v'.ownBlock = v.ownBlock ∨ ∃ g, v'.ownBlock = some g ∧ w.heap.size ≤ g) : Net B w0 w' gN d s' v' ps' :=
  ⟨hn, kp_below_of h.below hk (fun i hi => by
    rcases hi with rfl | hi
    · exact h.base
    · exact h.own i hi) h.sz, h.base, fun g hg => by
    rcases hv with h1 | ⟨g', h1, h2⟩
    · exact h.own g (by rw [← h1]; exact hg)
    · rw [h1] at hg; cases hg; exact Nat.le_trans h.sz h2, Nat.le_trans h.sz hk.size⟩
theorem Net.stay (h : Net B w0 w gN d s v ps) (hb : Below w.heap.size w w') : Net B w0 w' gN d s v ps :=
  ⟨h.net.below hb, h.below.trans (hb.mono h.sz), h.base, h.own, Nat.le_trans h.sz hb.size⟩
end

theorem run_eql_pk (x y : Pk) (w : World) : (binOp .eql 30 (.agg #[.int .i64 x.f, .int .i64 x.t, .string (bs x.d)]) (.agg #[.int .i64 y.f, .int .i64 y.t, .string (bs y.d)])).run Try.prog w = .ok (.bool (decide (x = y))) w := by
  cases x with | mk f t d => cases y with | mk f' t' d' =>
  by_cases h1 : f = f' <;> by_cases h2 : t = t' <;> by_cases h3 : d = d' <;> simp [go_sem, h1, h2, h3]

theorem not_ns {w : World} {gN : Nat} {d s : Int} {v : Value} {ps : List Pk} (h : NetI w gN d s v ps) {P : Nat} (hP : w.heap.size ≤ P) : ¬ NS gN v P := by
  rintro (rfl | hi)
  · have := h.lt; omega
  · have := own_lt h.own hi; omega

set_option maxRecDepth 100000 in
set_option maxHeartbeats 1600000 in
theorem awake_any (w : World) : Calls Try.prog 10 #[] w fun e' w' => e' = .returned (.bool true) ∧ Below w.heap.size w w' := by
  go_enter Try.func10, Try.ntmps10
  go_wp2_with fail
  refine (new_ok 2 (by decide) (by decide) _).mono ?_
  rintro e w1 ⟨gN, rfl, hN, hb, hge⟩
  have hN1 : Net w.heap.size w w1 gN 2 0 _ [] := ⟨hN, hb, hge, fun g hg => by simp [Value.ownBlock] at hg, hb.size⟩
  have H1 := Lib.hid hN1
  clear hN hb hN1
  go_wp2_with fail
  refine (send_rest gN 2 0 _ [] ⟨0, 1, [120]⟩ _ H1.out.net (by decide) (by decide) (by decide) (by decide) (by decide) (by decide) (by decide)).mono ?_
  rintro e w2 ⟨v2, rfl, hN2, hk2, hv2⟩
  have H2 : Hid (Net w.heap.size w w2 gN 2 1 v2 [⟨0, 1, [120]⟩]) := Lib.hid (by simpa using H1.out.step hN2 hk2 hv2)
  clear hN2 hk2 hv2 H1
  go_wp2_with fail
  refine (twice_ok gN 2 _ _ _ 0 _ H2.out.net (by decide) (by decide)).mono ?_
  rintro e w3 ⟨v3, rfl, hN3, hk3, hv3⟩
  have H3 : Hid (Net w.heap.size w w3 gN 2 1 v3 [⟨0, 1, [120]⟩, ⟨0, 1, [120]⟩]) := Lib.hid (by simpa using H2.out.step hN3 hk3 hv3)
  clear hN3 hk3 hv3 H2
  go_wp2_with fail
  refine (take_ok gN 2 _ _ _ 0 _ H3.out.net (by decide) (by decide)).mono ?_
  rintro e w4 ⟨v4, rfl, hN4, hk4, hv4⟩
  have H4 : Hid (Net w.heap.size w w4 gN 2 1 v4 [⟨0, 1, [120]⟩]) := Lib.hid (by simpa using H3.out.step hN4 hk4 (Or.inl hv4))
  clear hN4 hk4 hv4 H3
  rw [show pv [Pk.mk 0 1 [120], ⟨0, 1, [120]⟩][0] = Value.agg #[.int .i64 0, .int .i64 1, .string ⟨#[120]⟩] from rfl]
  have hP5 := Blk.new w4 30 #[.int .i64 0, .int .i64 1, .string ⟨#[120]⟩]
  have HP5 := Lib.hid hP5
  have H5 := Lib.hid (H4.out.stay ((Below.refl _ w4).alloc (Nat.le_refl _) (.cells #[.int .i64 0, .int .i64 1, .string ⟨#[120]⟩] 30)))
  have HNS := Lib.hid (not_ns H4.out.net (Nat.le_refl _))
  clear hP5
  go_wp2_with fail
  refine (take_ok gN 2 _ _ _ 0 _ H5.out.net (by decide) (by decide)).mono ?_
  rintro e w6 ⟨v6, rfl, hN6, hk6, hv6⟩
  have H6 : Hid (Net w.heap.size w w6 gN 2 1 v6 []) := Lib.hid (by simpa using H5.out.step hN6 hk6 (Or.inl hv6))
  have hP6 := Blk.kp HP5.out hk6 HNS.out
  rw [show pv [Pk.mk 0 1 [120]][0] = Value.agg #[.int .i64 0, .int .i64 1, .string ⟨#[120]⟩] from rfl]
  have hP7 := Blk.alloc hP6 (.cells #[.int .i64 0, .int .i64 1, .string ⟨#[120]⟩] 30)
  obtain ⟨a0, a1, a2⟩ := blk3 hP7
  obtain ⟨b0, b1, b2⟩ := blk3 (Blk.new w6 30 #[.int .i64 0, .int .i64 1, .string ⟨#[120]⟩])
  have H7 := Lib.hid (H6.out.stay ((Below.refl _ w6).alloc (Nat.le_refl _) (.cells #[.int .i64 0, .int .i64 1, .string ⟨#[120]⟩] 30)))
  clear hN6 hk6 hv6 H5 hP6 hP7
  go_wp2_with fail
  refine (sent_is gN 2 _ _ _ _ H7.out.net).mono ?_
  rintro e w8 ⟨rfl, rfl⟩
  go_wp2_with fail
  go_ret
  exact ⟨rfl, H7.out.below⟩
end Go.Proofs.Ytnefjmgpbbgifaa
