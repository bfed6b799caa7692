/- slices.Clone, many, Same at ranges. -/
import Derived.Test.YtkkmleglaljacaaJ
import Derived.Lib.SliceRun
namespace Go.Proofs.Ytkkmleglaljacaa
open Go.RowKit

theorem wpList_append_R {P : Program} (w : World) {ops : Array Oper} {rest : List Oper} {o : Oper} {a : Act} {Q : Exit → Act → World → Prop}
    (hg : o.guard = none) (s x : Operand) (t : TypeId) (hop : o.op = Op.call { callee := Callee.builtin Builtin.append, args := #[s, x], argTypes := #[t, t] })
    (base : Nat) (e : TypeId) (i : TypeInfo) (z : Value) (size bytes : Nat) (h1 : P.underlying t = some (.slice e)) (h2 : P.info? e = some i) (h3 : i.zero = some z) (h4 : i.size = size) (h5 : i.bytes = bytes) (h6 : z.cells.size = size) (h7 : 0 < size)
    (v : Value) (k : Nat) (xs : List Value) (hs : a.eval s = v) (hown : w.ownsRow base e size v k xs) (ad : Addr) (m c : Nat) (news : List Value) (hx : a.eval x = .slice (some ad) m c) (hn : news.length = m * size)
    (hc : ∀ j u, news[j]? = some u → w.cell? (ad.add j) = some u) (h1c : ∀ u ∈ news, u.oneCell' = true) (b1 : k + m ≤ maxLen) (b2 : (k + m) * bytes ≤ 140737488355328) (b3 : base ≤ w.heap.size)
    (hK : ∀ v' w', w'.ownsRow base e size v' (k + m) (xs ++ news) → w.grownBy w' v.ownBlock → wpList P ops Q rest (a.put o.dst v') w') :
    wpList P ops Q (o :: rest) a w :=
  wpList_plain hg fun _ hK' => by
    obtain ⟨v', w', hrun, r1, r2, r3⟩ := run_append_own (P := P) w base t o.type e i z size bytes h1 h2 h3 h4 h5 h6 h7 v k xs hown ad m c news hn hc h1c b1 b2 b3
    unfold Oper.wp execOp
    simp only [hop, resolve, invoke, builtin, Sem.run_bind, Sem.run_pure, Result.andThen_ok, List.map_toArray, List.map_cons, List.map_nil, hs, hx, hrun]
    exact hK' _ _ (hK v' w' r1 r2)
theorem sl_cells {w : World} {a : Addr} {n c : Nat} {xs : List Rg} (h : Sl w 3 RgC (some a) n c xs) : ∀ j u, (rcs xs)[j]? = some u → w.cell? (a.add j) = some u := by
  intro j u hu
  have hj : j < xs.length * 3 := by rw [← rcs_len]; exact (List.getElem?_eq_some_iff.1 hu).1
  have hd : j / 3 < xs.length := by omega
  obtain ⟨b', off', cs, e, _, hlc, ⟨rfl, _⟩, hc⟩ := h.4 (j / 3) hd
  cases e
  have e1 : (Addr.mk b' off' none).add j = ⟨b', off' + j, none⟩ := by unfold Addr.add; split <;> simp_all
  have e2 := rcs_at xs (j / 3) (j % 3) hd (by omega)
  rw [show j / 3 * 3 + j % 3 = j by omega, hu] at e2
  have := hc (j % 3) u e2.symm
  rw [e1]
  rwa [show off' + j / 3 * 3 + j % 3 = off' + j by omega] at this

set_option maxRecDepth 100000 in
set_option maxHeartbeats 1600000 in
theorem clone_row (len cap : Nat) (A : Option Addr) (xs : List Rg) (w : World) (hx : Sl w 3 RgC A len cap xs) (hlen : len ≤ 1000000) :
    Calls Try.prog 25 #[.slice A len cap] w fun e w' => ∃ v, e = .returned v ∧ w'.ownsRow w.heap.size 33 3 v xs.length (rcs xs) ∧ Below w.heap.size w w' := by
  have hl := hx.len
  obtain ⟨i0, hi0, hz0, hz1, hz2⟩ := info_parts info33
  cases A with
  | none =>
    have h0 : xs = [] := by
      cases xs with
      | nil => rfl
      | cons y r => obtain ⟨b, off, h, _⟩ := hx.rg_at (k := 0) (by simp); cases h
    subst h0
    obtain rfl : len = 0 := by simpa using hl.symm
    clear hx
    have he := fun w => Lib.run_eql_slice_nil (P := Try.prog) w 22 33 none 0 cap 0 0 Try.underlying22
    go_enter Try.func25, Try.ntmps25
    go_wp2_with fail
    go_ret
    exact ⟨_, rfl, World.ownsRow_nil _ _ _ _, Below.refl _ _⟩
  | some a =>
    have hown : (w.alloc (.cells #[] 33)).ownsRow w.heap.size 33 3 (.slice (some ⟨w.heap.size, 0, none⟩) 0 0) 0 [] :=
      ⟨rfl, .inr ⟨_, 0, #[], rfl, Nat.le_refl _, Blk.new w 33 #[], Nat.le_refl _, Nat.zero_le _, rfl, rfl⟩⟩
    have hb : Below w.heap.size w (w.alloc (.cells #[] 33)) := (Below.refl _ w).alloc (Nat.le_refl _) _
    have hcl := sl_cells (hx.below hb)
    have HO := Lib.hid hown
    have HS := Lib.hid hcl
    have HB := Lib.hid hb
    have hll : (rcs xs).length = len * 3 := by rw [rcs_len, hl]
    clear hown hcl hb hx
    have he := fun w => Lib.run_eql_slice_nil (P := Try.prog) w 22 33 (some a) len cap 0 0 Try.underlying22
    go_enter Try.func25, Try.ntmps25
    go_wp2_with (at_builtin; refine wpList_append_R _ rfl (.tmp 5) (.tmp 6) 22 rfl w.heap.size 33 i0 (.agg #[.int .i64 0, .int .i64 0, .int .i64 0]) 3 24 Try.underlying22 hi0 hz0 hz1 hz2 rfl (by decide) _ 0 [] rfl HO.out a len cap (rcs xs) rfl hll HS.out (rcs_one xs) (by unfold maxLen; omega) (by omega) (by simp) ?_; intro v' w' ho' hg')
    have hbb : Below w.heap.size w w' := gb_own HB.out (Nat.le_refl _) (by simp) (OwnC.of_row HO.out) hg'
    have HO2 := Lib.hid ho'
    have HB2 := Lib.hid hbb
    clear ho' hg' hbb
    go_wp2_with fail
    go_ret
    refine ⟨_, rfl, ?_, HB2.out⟩
    have := HO2.out
    rw [hl]
    simpa using this
theorem clone_any (len cap : Nat) (A : Option Addr) (xs : List Rg) (w : World) (hx : Sl w 3 RgC A len cap xs) (hlen : len ≤ 1000000) :
    Calls Try.prog 25 #[.slice A len cap] w fun e w' => ∃ v, e = .returned v ∧ OwnC w' w.heap.size 3 v xs.length (rcs xs) ∧ Below w.heap.size w w' :=
  (clone_row len cap A xs w hx hlen).mono fun _ _ ⟨v, e, h, hb⟩ => ⟨v, e, OwnC.of_row h, hb⟩

theorem OwnC.isSlice {w : World} {B size n : Nat} {v : Value} {xs : List Value} (h : OwnC w B size v n xs) : ∃ A c, v = .slice A n c := by
  rcases h.2 with ⟨rfl, rfl⟩ | ⟨g, cap, rfl, _⟩
  · exact ⟨none, 0, rfl⟩
  · exact ⟨_, cap, rfl⟩

theorem many_bound {xs : List Rg} (hr : ∀ x ∈ xs, RightR x) : ∀ k, 0 ≤ manyL (xs.take k) ∧ manyL (xs.take k) ≤ k * 1099511627776 := by
  intro k
  induction k with
  | zero => simp [manyL]
  | succ k ih =>
    rcases Nat.lt_or_ge k xs.length with h | h
    · rw [List.take_succ_eq_append_getElem h, many_append]
      have := hr _ (List.getElem_mem h)
      unfold RightR at this
      rw [many_cons]
      simp only [manyL, List.map_nil, List.sum_nil] at ih ⊢
      omega
    · rw [List.take_of_length_le (by omega)]
      rw [List.take_of_length_le h] at ih
      omega

set_option maxRecDepth 100000 in
set_option maxHeartbeats 1600000 in
theorem many_any (len cap : Nat) (A : Option Addr) (xs : List Rg) (w : World) (hx : Sl w 3 RgC A len cap xs) (hlen : len ≤ 100000) (hr : ∀ x ∈ xs, RightR x) :
    Calls Try.prog 26 #[.slice A len cap] w fun e w' => e = .returned (.int .i64 (manyL xs)) ∧ Below w.heap.size w w' := by
  have hl := hx.len
  have hmb := many_bound hr
  have HX := Lib.hid hx
  have HMB := Lib.hid hmb
  clear hx hmb
  go_enter Try.func26, Try.ntmps26
  go_wp2_with fail
  go_loopw [3, 8] (fun s i wr => ∃ k : Nat, k ≤ len ∧ i = .int .i64 k ∧ s = .int .i64 (manyL (xs.take k)) ∧ Below w.heap.size w wr) (fun _ i _ => len - (intOf i).toNat)
  case atStart => exact ⟨0, by omega, rfl, rfl, Below.refl _ _⟩
  case round =>
    obtain ⟨k, hk, rfl, rfl, hB⟩ := hrel
    rcases Nat.lt_or_ge k len with hlt | hge
    · have hkl : k < xs.length := by omega
      obtain ⟨b, off, rfl, hbl, c0, c1, c2, _⟩ := Sl.rg_at HX.out hkl
      have d0 := cell_below hB hbl c0
      have d1 := cell_below hB hbl c1
      have d2 := cell_below hB hbl c2
      have htk := List.take_succ_eq_append_getElem hkl
      have hxr := hr xs[k] (List.getElem_mem hkl)
      obtain ⟨x, hx⟩ : ∃ x, xs[k] = x := ⟨_, rfl⟩
      rw [hx] at d0 d1 d2 htk hxr
      have hm2 : manyL (xs.take (k + 1)) = manyL (xs.take k) + (x.t - x.f + 1) := by rw [htk, many_append, many_cons]; simp [manyL]
      have hmk := HMB.out k
      obtain ⟨s, hs⟩ : ∃ s, manyL (xs.take k) = s := ⟨_, rfl⟩
      rw [hs] at hm2 hmk
      rw [hs]
      obtain ⟨hm0, hm1⟩ := hmk
      have hm3 : s ≤ 109951162777600000000000 / 1000000 := by omega
      unfold RightR at hxr
      obtain ⟨r0, r1, r2, r3, r4⟩ := hxr
      have HM2 := Lib.hid hm2
      have HB := Lib.hid hB
      clear c0 c1 c2 htk hx hs hm2 hB hm1 r0 r1
      go_wp2_with fail
      exact ⟨⟨k + 1, by omega, by go_num, by rw [HM2.out], HB.out.alloc HB.out.size _⟩, by simp [intOf]; omega⟩
    · obtain rfl : k = len := by omega
      rw [List.take_of_length_le (by omega)]
      go_wp2_with fail
      go_ret
      exact ⟨rfl, hB⟩

set_option maxRecDepth 100000 in
set_option maxHeartbeats 1600000 in
theorem rmany_any (len cap : Nat) (A : Option Addr) (xs : List Rg) (w : World) (hx : Sl w 3 RgC A len cap xs) (hlen : len ≤ 100000) (hr : ∀ x ∈ xs, RightR x) :
    Calls Try.prog 28 #[.slice A len cap] w fun e w' => e = .returned (.int .i64 (manyL xs)) ∧ Below w.heap.size w w' := by
  have hl := hx.len
  have hmb := many_bound hr
  have hmx := hx.max
  have hle := hx.le
  have HX := Lib.hid hx
  have HMB := Lib.hid hmb
  clear hx hmb
  go_enter Try.func28, Try.ntmps28
  go_wp2_with fail
  go_loopw [3, 4] (fun s i wr => ∃ k : Nat, k ≤ len ∧ i = .int .i64 k ∧ s = .int .i64 (manyL (xs.take k)) ∧ Below w.heap.size w wr) (fun _ i _ => len - (intOf i).toNat)
  case atStart => exact ⟨0, by omega, rfl, rfl, Below.refl _ _⟩
  case round =>
    obtain ⟨k, hk, rfl, rfl, hB⟩ := hrel
    rcases Nat.lt_or_ge k len with hlt | hge
    · have hkl : k < xs.length := by omega
      obtain ⟨b, off, rfl, hbl, c0, c1, c2, _⟩ := Sl.rg_at HX.out hkl
      have d0 := cell_below hB hbl c0
      have d1 := cell_below hB hbl c1
      have d2 := cell_below hB hbl c2
      have htk := List.take_succ_eq_append_getElem hkl
      have hxr := hr xs[k] (List.getElem_mem hkl)
      obtain ⟨x, hx⟩ : ∃ x, xs[k] = x := ⟨_, rfl⟩
      rw [hx] at d0 d1 d2 htk hxr
      have hm2 : manyL (xs.take (k + 1)) = manyL (xs.take k) + x.t - x.f + 1 := by rw [htk, many_append, many_cons]; simp only [manyL, List.map_nil, List.sum_nil]; omega
      have hmk := HMB.out k
      obtain ⟨s, hs⟩ : ∃ s, manyL (xs.take k) = s := ⟨_, rfl⟩
      rw [hs] at hm2 hmk
      rw [hs]
      obtain ⟨hm0, hm1⟩ := hmk
      have hm3 : s ≤ 109951162777600000000000 / 1000000 := by omega
      unfold RightR at hxr
      obtain ⟨r0, r1, r2, r3, r4⟩ := hxr
      have HM2 := Lib.hid hm2
      have HB := Lib.hid hB
      clear c0 c1 c2 htk hx hs hm2 hB hm1 r0 r1
      go_wp2_with fail
      go_quiet (fail)
      have hbq : Below w.heap.size w (wr.drewN nq) := HB.out.trans ⟨rfl, rfl, rfl, Nat.le_refl _, fun _ _ => rfl⟩
      have HBQ := Lib.hid hbq
      clear hbq
      go_wp2_with fail
      exact ⟨⟨k + 1, by omega, by go_num, by rw [HM2.out], HBQ.out⟩, by simp [intOf]; omega⟩
    · obtain rfl : k = len := by omega
      rw [List.take_of_length_le (by omega)]
      go_wp2_with fail
      go_ret
      exact ⟨rfl, hB⟩

def sameB (a b : List Rg) : Bool := decide (a = b)
theorem run_neq_rg (x y : Rg) (w : World) : (binOp .neq 33 (.agg #[.int .i64 x.w, .int .i64 x.f, .int .i64 x.t]) (.agg #[.int .i64 y.w, .int .i64 y.f, .int .i64 y.t])).run Try.prog w = .ok (.bool (decide (x ≠ y))) w := by
  obtain ⟨a, b, c⟩ := x
  obtain ⟨a', b', c'⟩ := y
  by_cases h1 : a = a'
  · by_cases h2 : b = b'
    · by_cases h3 : c = c'
      · simp [go_sem, h1, h2, h3]
      · have h3' : (c == c') = false := by simp [h3]
        simp [go_sem, h1, h2, h3, h3']
    · have h2' : (b == b') = false := by simp [h2]
      simp [go_sem, h1, h2, h2']
  · have h1' : (a == a') = false := by simp [h1]
    simp [go_sem, h1, h1']
set_option maxRecDepth 100000 in
set_option maxHeartbeats 1600000 in
theorem same_any (n1 c1 n2 c2 : Nat) (A1 A2 : Option Addr) (xs ys : List Rg) (w : World) (hx : Sl w 3 RgC A1 n1 c1 xs) (hy : Sl w 3 RgC A2 n2 c2 ys) (hlen : n1 ≤ 1000000) (h2 : n2 ≤ 1000000) :
    Calls Try.prog 13 #[.slice A1 n1 c1, .slice A2 n2 c2] w fun e w' => e = .returned (.bool (sameB xs ys)) ∧ Below w.heap.size w w' := by
  have hl1 := hx.len
  have hl2 := hy.len
  have HX := Lib.hid hx
  have HY := Lib.hid hy
  clear hx hy
  by_cases hne : n1 = n2
  · subst hne
    have hq : ((n1 : Int) != (n1 : Int)) = false := by simp
    obtain ⟨r, hr⟩ : ∃ r, r = sameB xs ys := ⟨_, rfl⟩
    rw [← hr]
    have HR := Lib.hid hr
    clear hr
    go_enter Try.func13, Try.ntmps13
    go_wp2_with fail
    go_loopw [5] (fun i wr => ∃ k : Nat, k ≤ n1 ∧ i = .int .i64 k ∧ xs.take k = ys.take k ∧ Below w.heap.size w wr) (fun i _ => n1 - (intOf i).toNat)
    case atStart => exact ⟨0, by omega, rfl, rfl, Below.refl _ _⟩
    case round =>
      obtain ⟨k, hk, rfl, hT, hB⟩ := hrel
      rcases Nat.lt_or_ge k n1 with hlt | hge
      · have hkl : k < xs.length := by omega
        have hkl2 : k < ys.length := by omega
        obtain ⟨b, off, rfl, hbl, a0, a1, a2, _⟩ := Sl.rg_at HX.out hkl
        obtain ⟨b', off', rfl, hbl', b0, b1, b2, _⟩ := Sl.rg_at HY.out hkl2
        have d0 := cell_below hB hbl a0
        have d1 := cell_below hB hbl a1
        have d2 := cell_below hB hbl a2
        have e0 := cell_below hB hbl' b0
        have e1 := cell_below hB hbl' b1
        have e2 := cell_below hB hbl' b2
        have htk := List.take_succ_eq_append_getElem hkl
        have htk2 := List.take_succ_eq_append_getElem hkl2
        obtain ⟨x, hxx⟩ : ∃ x, xs[k] = x := ⟨_, rfl⟩
        obtain ⟨y, hyy⟩ : ∃ y, ys[k] = y := ⟨_, rfl⟩
        have hne2 : x ≠ y → r = false := fun h => by
          rw [HR.out]
          unfold sameB
          refine decide_eq_false fun e => h ?_
          subst e
          rw [← hxx, ← hyy]
        rw [hxx] at d0 d1 d2 htk
        rw [hyy] at e0 e1 e2 htk2
        have hrun := fun w => run_neq_rg x y w
        have HB := Lib.hid hB
        have HT := Lib.hid hT
        have HK := Lib.hid htk
        have HK2 := Lib.hid htk2
        clear a0 a1 a2 b0 b1 b2 htk htk2 hB hT hxx hyy
        by_cases hxy : x = y
        · have hd : decide (x ≠ y) = false := by simp [hxy]
          rw [hd] at hrun
          have HE := Lib.hid hxy
          clear hne2 hd hxy
          go_wp2_with fail
          go_quiet (fail)
          have HBQ := Lib.hid (show Below w.heap.size w (wr.drewN nq) from HB.out.trans ⟨rfl, rfl, rfl, Nat.le_refl _, fun _ _ => rfl⟩)
          go_wp2_with fail
          exact ⟨⟨k + 1, by omega, by go_num, by rw [HK.out, HK2.out, HT.out, HE.out], HBQ.out⟩, by simp [intOf]; omega⟩
        · have hd : decide (x ≠ y) = true := by simp [hxy]
          rw [hd] at hrun
          obtain rfl := hne2 hxy
          clear hd hne2 hxy
          go_wp2_with fail
          go_quiet (fail)
          have HBQ := Lib.hid (show Below w.heap.size w (wr.drewN nq) from HB.out.trans ⟨rfl, rfl, rfl, Nat.le_refl _, fun _ _ => rfl⟩)
          go_wp2_with fail
          go_ret
          exact ⟨rfl, HBQ.out⟩
      · obtain rfl : k = n1 := by omega
        rw [List.take_of_length_le (by omega), List.take_of_length_le (by omega)] at hT
        have hr : r = true := by rw [HR.out, hT]; unfold sameB; simp
        subst hr
        go_wp2_with fail
        go_ret
        exact ⟨rfl, hB⟩
  · have hq : ((n1 : Int) != (n2 : Int)) = true := by simp; omega
    have hr : sameB xs ys = false := by
      unfold sameB
      refine decide_eq_false fun e => hne ?_
      rw [← hl1, ← hl2, e]
    rw [hr]
    go_enter Try.func13, Try.ntmps13
    go_wp2_with fail
    go_ret
    exact ⟨rfl, Below.refl _ _⟩
end Go.Proofs.Ytkkmleglaljacaa
