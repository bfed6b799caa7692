/- joined: ranges, as few as can be, in order. -/
import Derived.Test.YtkkmleglaljacaaSo
import Derived.Test.YtkkmleglaljacaaQTail
namespace Go.Proofs.Ytkkmleglaljacaa
open Go.RowKit

theorem joinR_right {l : List Rg} {g : Rg} (hl : ∀ x ∈ l, RightR x) (hg : RightR g) : ∀ x ∈ joinR l g, RightR x := by
  intro x hx
  cases l with
  | nil =>
    simp [joinR] at hx
    rw [hx]; exact hg
  | cons y r =>
    rw [joinR_cons] at hx
    have hy := hl y (by simp)
    split at hx
    · rcases List.mem_cons.1 hx with rfl | hx
      · unfold RightR at *
        simp only
        omega
      · exact hl x (List.mem_cons_of_mem _ hx)
    · rcases List.mem_cons.1 hx with rfl | hx
      · exact hg
      · exact hl x hx
theorem rcs_set (a : List Rg) (y : Rg) (t : Int) : (rcs (a ++ [y])).set (a.length * 3 + 2) (.int .i64 t) = rcs (a ++ [⟨y.w, y.f, t⟩]) := by
  rw [rcs_append, rcs_append, List.set_append_right _ _ (by rw [rcs_len]; omega), rcs_len, show a.length * 3 + 2 - a.length * 3 = 2 by omega]
  rfl
/-- the last range's last number stored -/
theorem row_last {w : World} {B g cap : Nat} {a : List Rg} {y : Rg} (h : w.ownsRow B 33 3 (.slice (some ⟨g, 0, none⟩) (a.length + 1) cap) (a.length + 1) (rcs (a ++ [y]))) (t : Int) :
    (w.setCell ⟨g, a.length * 3 + 2, none⟩ (.int .i64 t)).ownsRow B 33 3 (.slice (some ⟨g, 0, none⟩) (a.length + 1) cap) (a.length + 1) (rcs (a ++ [⟨y.w, y.f, t⟩])) := by
  refine ⟨by rw [rcs_len]; simp, ?_⟩
  rcases h.2 with ⟨e, _⟩ | ⟨g', cap', cur, e, hb, hh, hle, hmx, hsz, htk⟩
  · cases e
  · cases e
    refine .inr ⟨g, cap, cur.setIfInBounds (a.length * 3 + 2) (.int .i64 t), rfl, hb, Blk.set_ (t := 33) hh _ _, hle, hmx, by simpa using hsz, ?_⟩
    rw [Array.toList_setIfInBounds, List.take_set, htk, rcs_set]
theorem row_at {w : World} {B : Nat} {u : Value} {n : Nat} {ys : List Rg} (h : w.ownsRow B 33 3 u n (rcs ys)) (hn : n = ys.length) {k : Nat} (hk : k < ys.length) : ∃ g cap, u = .slice (some ⟨g, 0, none⟩) n cap ∧ B ≤ g ∧ g < w.heap.size ∧ n ≤ cap ∧ cap ≤ 9223372036854775807 ∧
    w.cell? ⟨g, k * 3, none⟩ = some (.int .i64 ys[k].w) ∧ w.cell? ⟨g, k * 3 + 1, none⟩ = some (.int .i64 ys[k].f) ∧ w.cell? ⟨g, k * 3 + 2, none⟩ = some (.int .i64 ys[k].t) ∧ w.frozen? ⟨g, k * 3 + 2, none⟩ = false := by
  subst hn
  rcases h.2 with ⟨_, e2⟩ | ⟨g, cap, cur, rfl, hb, hh, hle, hmx, hsz, htk⟩
  · omega
  · have hB : Blk w g 33 cur := hh
    have key : ∀ j, j < 3 → w.cell? ⟨g, k * 3 + j, none⟩ = (rc ys[k])[j]? := fun j hj => by
      rw [hB.cell, ← rcs_at ys k j hk hj, ← htk, List.getElem?_take_of_lt (by omega), Array.getElem?_toList]
    exact ⟨g, cap, rfl, hb, hB.lt, hle, hmx, key 0 (by omega), key 1 (by omega), key 2 (by omega), hB.frozen _⟩
theorem row_slice {w : World} {B : Nat} {u : Value} {n : Nat} {xs : List Value} {e : TypeId} (h : w.ownsRow B e 3 u n xs) : ∃ A c, u = .slice A n c := by
  rcases h.2 with ⟨e, e2⟩ | ⟨g, cap, cur, e, _⟩
  · exact ⟨none, 0, by rw [e, e2]⟩
  · exact ⟨_, cap, e⟩
theorem row_below {w w' : World} {B : Nat} {u : Value} {n : Nat} {xs : List Value} {e : TypeId} {size : Nat} (h : w.ownsRow B e size u n xs) (hb : Below w.heap.size w w') : w'.ownsRow B e size u n xs := by
  refine ⟨h.1, ?_⟩
  rcases h.2 with h0 | ⟨g, cap, cur, hv, h0, hh, rest⟩
  · exact .inl h0
  · exact .inr ⟨g, cap, cur, hv, h0, (Blk.below (t := e) (cs := cur) hh hb (Blk.lt (t := e) (cs := cur) hh)), rest⟩
theorem row_mono {w : World} {B B' : Nat} {e : TypeId} {size : Nat} {v : Value} {n : Nat} {xs : List Value} (h : w.ownsRow B e size v n xs) (hB : B' ≤ B) : w.ownsRow B' e size v n xs := by
  refine ⟨h.1, ?_⟩
  rcases h.2 with hn | ⟨g, cap, cur, rfl, hb, r⟩
  · exact .inl hn
  · exact .inr ⟨g, cap, cur, rfl, Nat.le_trans hB hb, r⟩

theorem below_own {base : Nat} {e : TypeId} {size n : Nat} {w w' : World} {v : Value} {xs : List Value} (h : w.ownsRow base e size v n xs) (hg : w.grownBy w' v.ownBlock) (hB : base ≤ w.heap.size) : Below base w w' :=
  (Below.refl base w).grown hg hB (fun k hk => by
    rcases h.2 with ⟨rfl, _⟩ | ⟨g, cap, cur, rfl, hb, _⟩
    · simp [Value.ownBlock] at hk
    · simp [Value.ownBlock] at hk; omega)
/-- 'out = append(out, x)' at a row of ranges of one's own -/
theorem wpList_app3 {ops : Array Oper} {rest : List Oper} {o : Oper} {a : Act} {Q : Exit → Act → World → Prop} (W : World) (y : Rg) (hgd : o.guard = none) (s x : Operand)
    (ho : o.op = .call { callee := .builtin .append, args := #[s, x], argTypes := #[22, 22] }) (base : Nat) (v : Value) (n : Nat) (l : List Rg) (hs : a.eval s = v) (hown : W.ownsRow base 33 3 v n (rcs l))
    (hx : a.eval x = .slice (some ⟨W.heap.size, 0, none⟩) 1 1) (hm : n ≤ 1000000) (hB : base ≤ W.heap.size)
    (h : ∀ g cap w', w'.ownsRow base 33 3 (.slice (some ⟨g, 0, none⟩) (n + 1) cap) (n + 1) (rcs (l ++ [y])) → Below base W w' → W.grownBy w' v.ownBlock → (v.ownBlock = some g ∨ W.heap.size ≤ g) → wpList Try.prog ops Q rest (a.put o.dst (.slice (some ⟨g, 0, none⟩) (n + 1) cap)) w') :
    wpList Try.prog ops Q (o :: rest) a (W.alloc (.cells #[.int .i64 y.w, .int .i64 y.f, .int .i64 y.t] 33)) := by
  obtain ⟨i0, hi0, hz0, hz1, hz2⟩ := info_parts info33
  refine wpList_append_lies _ hgd s x 22 ho base 33 i0 (.agg #[.int .i64 0, .int .i64 0, .int .i64 0]) 3 24 Try.underlying22 hi0 hz0 hz1 hz2 rfl (by decide) v n (rcs l) hs (hown.alloc _) ⟨W.heap.size, 0, none⟩ 1 1 (rc y) hx rfl (cells3_new W 33 _ _ _)
    (by simp [rc, Value.oneCell']) (by decide) (by unfold maxLen; omega) (by omega) (by simp; omega) _ rfl ?_
  intro g cap w' ho' hg hat _
  refine h g cap w' ?_ (((Below.refl base W).alloc hB _).trans (below_own (hown.alloc _) hg (by simp; omega))) (gb_trans (gb_alloc (gb_refl W _) _) hg) (hat.imp id fun e => by rw [e]; simp)
  rw [rcs_append]
  simpa [rcs] using ho'

set_option maxRecDepth 100000 in
set_option maxHeartbeats 4000000 in
theorem joined_any (len cap : Nat) (A : Option Addr) (xs : List Rg) (w : World) (hx : Sl w 3 RgC A len cap xs) (hlen : len ≤ 1000000) (hr : ∀ x ∈ xs, RightR x) :
    Calls Try.prog 24 #[.slice A len cap] w fun e w' => ∃ v s, e = .returned v ∧ List.Perm s xs ∧ s.Pairwise Ahead ∧ w'.ownsRow w.heap.size 33 3 v (joinAll s).length (rcs (joinAll s)) ∧ Below w.heap.size w w' := by
  have hl := hx.len
  have hb1 : Below w.heap.size w (w.alloc (.cells #[.slice A len cap] 22)) := (Below.refl _ w).alloc (Nat.le_refl _) _
  have HS := Lib.hid (sorted_any w.heap.size len cap A xs w (w.alloc (.cells #[.slice A len cap] 22)) hx hlen hb1 (by simp) (Nat.le_refl _) (Boxed.new _ _ _))
  have HB1 := Lib.hid hb1
  obtain ⟨i0, hi0, hz0, hz1, hz2⟩ := info_parts info33
  clear hx hb1
  go_enter Try.func24, Try.ntmps24
  go_wp2_with fail
  refine (values_any A len cap w).mono ?_
  rintro e w1 ⟨rfl, rfl⟩
  go_wp2_with fail
  refine HS.out.mono ?_
  rintro e w2 ⟨v, s, rfl, hp, hs, ho, hb⟩
  have hsl : s.length = len := by rw [hp.length_eq, hl]
  have hsr : ∀ x ∈ s, RightR x := fun x hx => hr x (hp.mem_iff.1 hx)
  obtain ⟨A2, c2, rfl, hx2⟩ := own_sl ho (fun x hx => (hsr x hx).r64)
  have hsz2 : w.heap.size + 1 ≤ w2.heap.size := by have := hb.size; simpa using this
  have hbw : Below w.heap.size w w2 := HB1.out.trans (hb.mono (by simp))
  have HBW := Lib.hid hbw
  have HX2 := Lib.hid hx2
  have HO := Lib.hid ho
  have HP := Lib.hid hp
  have HSo := Lib.hid hs
  clear hb ho hx2 hbw hp hs HS HB1
  go_wp2_with fail
  go_loopw [3, 12] (fun u i wr => ∃ (k : Nat) (L : List Rg), k ≤ len ∧ i = .int .i64 k ∧ (s.take k).foldl joinR [] = L ∧ (∀ x ∈ L, RightR x) ∧ L.length ≤ k ∧ wr.ownsRow w2.heap.size 33 3 u L.length (rcs L.reverse) ∧ Below w2.heap.size w2 wr) (fun _ i _ => len - (intOf i).toNat)
  case atStart => exact ⟨0, [], by omega, rfl, rfl, (fun _ h => by cases h), by simp, World.ownsRow_nil _ _ _ _, Below.refl _ _⟩
  case round =>
    obtain ⟨k, L, hk, rfl, hL, hLr, hLk, hO, hB⟩ := hrel
    rcases Nat.lt_or_ge k len with hlt | hge
    · have hkl : k < s.length := by omega
      obtain ⟨b, off, rfl, hbl, c0, c1, c2', _⟩ := Sl.rg_at HX2.out hkl
      have d0 := cell_below hB hbl c0
      have d1 := cell_below hB hbl c1
      have d2 := cell_below hB hbl c2'
      have htk := List.take_succ_eq_append_getElem hkl
      have hxr := hsr s[k] (List.getElem_mem hkl)
      obtain ⟨x, hx⟩ : ∃ x, s[k] = x := ⟨_, rfl⟩
      rw [hx] at d0 d1 d2 htk hxr
      have hL2 : (s.take (k + 1)).foldl joinR [] = joinR L x := by rw [htk, List.foldl_append, hL]; rfl
      have HL2 := Lib.hid hL2
      have HLR := Lib.hid hLr
      have HXR := Lib.hid hxr
      clear c0 c1 c2' hL hL2 htk hx hLr hxr
      obtain ⟨w3, hw3⟩ : ∃ w3, w3 = wr.alloc (.cells #[.int .i64 x.w, .int .i64 x.f, .int .i64 x.t] 33) := ⟨_, rfl⟩
      have hb3 : Below wr.heap.size wr w3 := by rw [hw3]; exact (Below.refl _ wr).alloc (Nat.le_refl _) _
      have hX : Blk w3 wr.heap.size 33 #[.int .i64 x.w, .int .i64 x.f, .int .i64 x.t] := by rw [hw3]; exact Blk.new _ _ _
      have hO3 := row_below hO hb3
      have hB3 := hB.trans (hb3.mono hB.size)
      have hs3 : w3.heap.size = wr.heap.size + 1 := by rw [hw3]; simp
      obtain ⟨e0, e1, e2⟩ := blk3 hX
      have HW3 := Lib.hid hw3
      have HB3 := Lib.hid hB3
      have HS3 := Lib.hid hs3
      clear hb3 hX hB hw3 hB3 hs3
      cases L with
      | nil =>
        simp only [List.length_nil, List.reverse_nil] at hO3
        obtain ⟨A3, c3, rfl⟩ := row_slice hO3
        have HO3 := Lib.hid hO3
        clear hO hO3
        go_wp2_with fail
        rw [← HW3.out]
        go_quiet (fail)
        have ho4 : (w3.drewN nq).ownsRow w2.heap.size 33 3 (.slice A3 0 c3) 0 (rcs []) := HO3.out
        have hs4 : w2.heap.size ≤ (w3.drewN nq).heap.size := HB3.out.size
        go_wp2_with (at_builtin; refine wpList_app3 (w3.drewN nq) x rfl (.tmp 54) (.tmp 56) rfl w2.heap.size (.slice A3 0 c3) 0 [] rfl ho4 rfl (by omega) hs4 ?_; intro g4 cap4 w4 ho5 hb5 _ _)
        have HO5 := Lib.hid ho5
        have hb6 : Below w2.heap.size w2 w4 := HB3.out.trans ((show Below w2.heap.size w3 (w3.drewN nq) from ⟨rfl, rfl, rfl, Nat.le_refl _, fun _ _ => rfl⟩).trans hb5)
        have HB6 := Lib.hid hb6
        clear ho5 hb5 ho4 hb6
        go_wp2_with fail
        exact ⟨⟨k + 1, [x], by omega, by go_num, HL2.out, (fun z hz => by cases List.mem_singleton.1 hz; exact HXR.out), by simp, HO5.out, HB6.out⟩, by simp [intOf]; omega⟩
      | cons y r =>
        have hyr := HLR.out y (by simp)
        have hy1 : y.t ≤ 1099511627776 ∧ 1 ≤ y.t := by unfold RightR at hyr; omega
        obtain ⟨m, hm⟩ : ∃ m, m = r.length := ⟨_, rfl⟩
        have hrm : r.reverse.length = m := by rw [List.length_reverse, hm]
        rw [List.length_cons, ← hm, List.reverse_cons] at hO3
        rw [List.length_cons, ← hm] at hLk
        have hat := row_at hO3 (k := m) (by simp [hm]) (by simp [hm])
        have hget : (r.reverse ++ [y])[m]'(by simp [hm]) = y := by simp [hm]
        rw [hget] at hat
        obtain ⟨g, c3, rfl, hBg, hgl, hle, hcm, q0, q1, q2, qf⟩ := hat
        have HO3 := Lib.hid hO3
        have HM := Lib.hid hm
        have HRM := Lib.hid hrm
        have hml : m ≤ 1000000 := by omega
        clear hO hO3 hget hm hrm hyr
        by_cases ht : y.w = x.w ∧ x.f ≤ y.t + 1
        · have t1 : (y.w == x.w) = true := by simp [ht.1]
          have t2 : decide (x.f ≤ y.t + 1) = true := decide_eq_true ht.2
          go_wp2_with fail
          rw [← HW3.out]
          go_quiet (fail)
          obtain ⟨w4, hw4⟩ : ∃ w4, w4 = w3.drewN nq := ⟨_, rfl⟩
          have q2' : w4.cell? ⟨g, m * 3 + 2, none⟩ = some (.int .i64 y.t) := by rw [hw4]; exact q2
          have qf' : w4.frozen? ⟨g, m * 3 + 2, none⟩ = false := by rw [hw4]; exact qf
          have e2' : w4.cell? ⟨wr.heap.size, 2, none⟩ = some (.int .i64 x.t) := by rw [hw4]; exact e2
          have ho4 : w4.ownsRow w2.heap.size 33 3 (.slice (some ⟨g, 0, none⟩) (m + 1) c3) (m + 1) (rcs (r.reverse ++ [y])) := by rw [hw4]; exact HO3.out
          have hb4 : Below w2.heap.size w2 w4 := by rw [hw4]; exact HB3.out.trans ⟨rfl, rfl, rfl, Nat.le_refl _, fun _ _ => rfl⟩
          rw [← hw4]
          have HO4 := Lib.hid ho4
          have HB4 := Lib.hid hb4
          clear hw4 ho4 hb4 q0 q1 q2 qf e0 e1 e2
          obtain ⟨mx, hmx⟩ : ∃ mx, mx = max y.t x.t := ⟨_, rfl⟩
          have HMX := Lib.hid hmx
          clear hmx
          go_wp2_with fail
          refine wp_region_quiet_tail (C := fun w' => w' = w4.drew) 12 (by kernel_rfl) (by kernel_rfl) rfl ?_
          simp only [List.take_succ_cons, List.take_zero, List.drop_succ_cons, List.drop_zero]
          repeat (go_big_quiet_step (fail))
          refine wpQuiet_nil ?_
          rintro _ rfl
          go_wp2_with fail
          have hjr : joinR (y :: r) x = ⟨y.w, y.f, mx⟩ :: r := by rw [joinR_cons, if_pos ht, HMX.out]
          have ho5 := row_last (a := r.reverse) (y := y) (g := g) (cap := c3) (B := w2.heap.size) (w := w4.drew) (by rw [HRM.out]; exact HO4.out) mx
          rw [HRM.out] at ho5
          have hb5 : Below w2.heap.size w2 (w4.drew.setCell ⟨g, m * 3 + 2, none⟩ (.int .i64 mx)) := (HB4.out.drew).setCell (p := ⟨g, m * 3 + 2, none⟩) hBg _
          refine ⟨⟨k + 1, _, by omega, by go_num, HL2.out.trans hjr, ?_, by rw [List.length_cons, ← HM.out]; omega, by rw [List.length_cons, ← HM.out, List.reverse_cons, ← HMX.out]; exact ho5, by rw [← HMX.out]; exact hb5⟩, by simp [intOf]; omega⟩
          have := joinR_right HLR.out HXR.out
          rw [hjr] at this
          exact this
        · have hjr : joinR (y :: r) x = x :: y :: r := by rw [joinR_cons, if_neg ht]
          have hrr := joinR_right HLR.out HXR.out
          rw [hjr] at hrr
          have hl3 := HL2.out.trans hjr
          have HRR := Lib.hid hrr
          have HL3 := Lib.hid hl3
          clear hrr hl3 hjr
          by_cases hyw : y.w = x.w
          case' pos =>
            have t1 : (y.w == x.w) = true := by simp [hyw]
            have t2 : decide (x.f ≤ y.t + 1) = false := decide_eq_false (fun h => ht ⟨hyw, h⟩)
            clear ht
            go_wp2_with fail
          case' neg =>
            have t1 : (y.w == x.w) = false := by simp [hyw]
            clear ht
            go_wp2_with fail
          all_goals
            rw [← HW3.out]
            go_quiet (fail)
            have ho4 : (w3.drewN nq).ownsRow w2.heap.size 33 3 (.slice (some ⟨g, 0, none⟩) (m + 1) c3) (m + 1) (rcs (r.reverse ++ [y])) := HO3.out
            have hs4 : w2.heap.size ≤ (w3.drewN nq).heap.size := HB3.out.size
            have hml1 : m + 1 ≤ 1000000 := by omega
            go_wp2_with (at_builtin; refine wpList_app3 (w3.drewN nq) x rfl (.tmp 54) (.tmp 56) rfl w2.heap.size (.slice (some ⟨g, 0, none⟩) (m + 1) c3) (m + 1) (r.reverse ++ [y]) rfl ho4 rfl hml1 hs4 ?_; intro g4 cap4 w4 ho5 hb5 _ _)
            have hb6 : Below w2.heap.size w2 w4 := HB3.out.trans ((show Below w2.heap.size w3 (w3.drewN nq) from ⟨rfl, rfl, rfl, Nat.le_refl _, fun _ _ => rfl⟩).trans hb5)
            have HB6 := Lib.hid hb6
            have HO5 := Lib.hid ho5
            clear ho5 hb5 ho4 hb6
            go_wp2_with fail
            exact ⟨⟨k + 1, _, by omega, by go_num, HL3.out, HRR.out, by simp only [List.length_cons, ← HM.out]; omega, by simp only [List.length_cons, ← HM.out, List.reverse_cons]; exact HO5.out, HB6.out⟩, by simp [intOf]; omega⟩
    · obtain rfl : k = len := by omega
      rw [List.take_of_length_le (by omega)] at hL
      obtain ⟨A3, c3, rfl⟩ := row_slice hO
      have HO1 := Lib.hid hO
      have HB1 := Lib.hid hB
      have HL := Lib.hid hL
      clear hO hB hL hLr
      go_wp2_with fail
      go_ret
      refine ⟨_, s, rfl, HP.out, HSo.out, ?_, HBW.out.trans (HB1.out.mono (by omega))⟩
      unfold joinAll
      rw [HL.out, List.length_reverse]
      exact row_mono HO1.out (by omega)
end Go.Proofs.Ytkkmleglaljacaa
