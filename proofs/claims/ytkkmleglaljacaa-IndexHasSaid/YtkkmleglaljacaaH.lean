/- Has; slices.IndexFunc, slices.ContainsFunc at ranges. -/
import Derived.Test.YtkkmleglaljacaaG
namespace Go.Proofs.Ytkkmleglaljacaa
open Go.RowKit

/-- the first place, -1 where there is none -/
def firstR (P : Rg → Bool) (ps : List Rg) : Int := match ps.findIdx? P with
  | some i => i
  | none => -1

set_option maxRecDepth 100000 in
set_option maxHeartbeats 1600000 in
theorem index32 (p q : Nat) (P : Rg → Bool) (A : Option Addr) (n c : Nat) (ps : List Rg) (w : World) (hx : Sl w 3 RgC A n c ps) (hm : n ≤ 1000000)
    (hP : ∀ y ∈ ps, ∀ W, Below w.heap.size w W → Calls Try.prog 32 #[.agg #[.int .i64 y.w, .int .i64 y.f, .int .i64 y.t], .pointer (some ⟨p, 0, none⟩), .pointer (some ⟨q, 0, none⟩)] W fun e w' => e = .returned (.bool (P y)) ∧ Below W.heap.size W w') :
    Calls Try.prog 38 #[.slice A n c, .func (.func 32) #[] #[.pointer (some ⟨p, 0, none⟩), .pointer (some ⟨q, 0, none⟩)]] w fun e w' => e = .returned (.int .i64 (firstR P ps)) ∧ Below w.heap.size w w' := by
  have hl := hx.len
  have HX := Lib.hid hx
  have HP := Lib.hid hP
  clear hx hP
  go_enter Try.func38, Try.ntmps38
  go_wp2_with fail
  go_loopw [8] (fun i wr => ∃ k : Nat, k ≤ n ∧ i = .int .i64 k ∧ Below w.heap.size w wr ∧ ∀ j (hj : j < ps.length), j < k → P ps[j] = false) (fun i _ => n - (intOf i).toNat)
  case atStart => exact ⟨0, by omega, rfl, Below.refl _ _, fun j _ h => by omega⟩
  case round =>
    obtain ⟨k, hk, rfl, hb, hall⟩ := hrel
    rcases Nat.lt_or_ge k n with hlt | hge
    · have hkl : k < ps.length := by omega
      obtain ⟨b, off, rfl, hbl, c0, c1, c2, _⟩ := Sl.rg_at HX.out hkl
      have d0 := cell_below hb hbl c0
      have d1 := cell_below hb hbl c1
      have d2 := cell_below hb hbl c2
      have HA := Lib.hid hall
      have HCl := Lib.hid (HP.out ps[k] (List.getElem_mem hkl) wr hb)
      obtain ⟨x, hx⟩ : ∃ x, ps[k] = x := ⟨_, rfl⟩
      rw [hx] at d0 d1 d2 HCl
      have HXe := Lib.hid hx
      have HB := Lib.hid hb
      clear hall hx hb c0 c1 c2
      go_wp2_with fail
      refine HCl.out.mono ?_
      rintro e w2 ⟨rfl, hb2⟩
      have hb3 := HB.out.trans (hb2.mono HB.out.size)
      clear hb2
      cases hc : P x with
      | true =>
        have hfin : firstR P ps = k := by
          have h1 : ps.findIdx? P = some k := by
            rw [List.findIdx?_eq_some_iff_getElem]
            exact ⟨hkl, by rw [HXe.out]; exact hc, fun j hj => by rw [HA.out j (by omega) hj]; simp⟩
          unfold firstR; rw [h1]
        have HF := Lib.hid hfin
        clear hfin
        go_wp2_with fail
        go_ret
        exact ⟨by rw [HF.out]; rfl, hb3⟩
      | false =>
        go_wp2_with fail
        exact ⟨⟨k + 1, by omega, by go_num, hb3, fun j hj hjk => by
          by_cases e : j = k
          · subst e; rw [HXe.out]; exact hc
          · exact HA.out j hj (by omega)⟩, by simp [intOf]; omega⟩
    · obtain rfl : k = n := by omega
      have hfin : firstR P ps = -1 := by
        have h1 : ps.findIdx? P = none := by
          rw [List.findIdx?_eq_none_iff]
          intro x hx
          obtain ⟨j, hj, rfl⟩ := List.mem_iff_getElem.1 hx
          exact hall j hj (by omega)
        unfold firstR; rw [h1]
      have HF := Lib.hid hfin
      clear hfin
      go_wp2_with fail
      go_ret
      exact ⟨by rw [HF.out]; rfl, hb⟩

set_option maxRecDepth 100000 in
set_option maxHeartbeats 1600000 in
theorem index30 (P : Rg → Bool) (A : Option Addr) (n c : Nat) (ps : List Rg) (w : World) (hx : Sl w 3 RgC A n c ps) (hm : n ≤ 1000000)
    (hP : ∀ y ∈ ps, ∀ W, Below w.heap.size w W → Calls Try.prog 30 #[.agg #[.int .i64 y.w, .int .i64 y.f, .int .i64 y.t]] W fun e w' => e = .returned (.bool (P y)) ∧ Below W.heap.size W w') :
    Calls Try.prog 38 #[.slice A n c, .func (.func 30) #[] #[]] w fun e w' => e = .returned (.int .i64 (firstR P ps)) ∧ Below w.heap.size w w' := by
  have hl := hx.len
  have HX := Lib.hid hx
  have HP := Lib.hid hP
  clear hx hP
  go_enter Try.func38, Try.ntmps38
  go_wp2_with fail
  go_loopw [8] (fun i wr => ∃ k : Nat, k ≤ n ∧ i = .int .i64 k ∧ Below w.heap.size w wr ∧ ∀ j (hj : j < ps.length), j < k → P ps[j] = false) (fun i _ => n - (intOf i).toNat)
  case atStart => exact ⟨0, by omega, rfl, Below.refl _ _, fun j _ h => by omega⟩
  case round =>
    obtain ⟨k, hk, rfl, hb, hall⟩ := hrel
    rcases Nat.lt_or_ge k n with hlt | hge
    · have hkl : k < ps.length := by omega
      obtain ⟨b, off, rfl, hbl, c0, c1, c2, _⟩ := Sl.rg_at HX.out hkl
      have d0 := cell_below hb hbl c0
      have d1 := cell_below hb hbl c1
      have d2 := cell_below hb hbl c2
      have HA := Lib.hid hall
      have HCl := Lib.hid (HP.out ps[k] (List.getElem_mem hkl) wr hb)
      obtain ⟨x, hx⟩ : ∃ x, ps[k] = x := ⟨_, rfl⟩
      rw [hx] at d0 d1 d2 HCl
      have HXe := Lib.hid hx
      have HB := Lib.hid hb
      clear hall hx hb c0 c1 c2
      go_wp2_with fail
      refine HCl.out.mono ?_
      rintro e w2 ⟨rfl, hb2⟩
      have hb3 := HB.out.trans (hb2.mono HB.out.size)
      clear hb2
      cases hc : P x with
      | true =>
        have hfin : firstR P ps = k := by
          have h1 : ps.findIdx? P = some k := by
            rw [List.findIdx?_eq_some_iff_getElem]
            exact ⟨hkl, by rw [HXe.out]; exact hc, fun j hj => by rw [HA.out j (by omega) hj]; simp⟩
          unfold firstR; rw [h1]
        have HF := Lib.hid hfin
        clear hfin
        go_wp2_with fail
        go_ret
        exact ⟨by rw [HF.out]; rfl, hb3⟩
      | false =>
        go_wp2_with fail
        exact ⟨⟨k + 1, by omega, by go_num, hb3, fun j hj hjk => by
          by_cases e : j = k
          · subst e; rw [HXe.out]; exact hc
          · exact HA.out j hj (by omega)⟩, by simp [intOf]; omega⟩
    · obtain rfl : k = n := by omega
      have hfin : firstR P ps = -1 := by
        have h1 : ps.findIdx? P = none := by
          rw [List.findIdx?_eq_none_iff]
          intro x hx
          obtain ⟨j, hj, rfl⟩ := List.mem_iff_getElem.1 hx
          exact hall j hj (by omega)
        unfold firstR; rw [h1]
      have HF := Lib.hid hfin
      clear hfin
      go_wp2_with fail
      go_ret
      exact ⟨by rw [HF.out]; rfl, hb⟩

def inB (who n : Int) (y : Rg) : Bool := decide (y.w = who ∧ y.f ≤ n ∧ n ≤ y.t)
def hasB (l : List Rg) (who n : Int) : Bool := l.any (inB who n)
theorem hasB_cov (l : List Rg) (who n : Int) : hasB l who n = true ↔ cov l who n := by
  unfold hasB cov
  rw [List.any_eq_true]
  constructor
  · rintro ⟨y, hy, h⟩; exact ⟨y, hy, of_decide_eq_true h⟩
  · rintro ⟨y, hy, h⟩; exact ⟨y, hy, decide_eq_true h⟩
theorem first_has (P : Rg → Bool) (l : List Rg) : decide (firstR P l ≥ 0) = l.any P := by
  unfold firstR
  cases h : l.findIdx? P with
  | none =>
    rw [List.findIdx?_eq_none_iff] at h
    have : l.any P = false := by rw [List.any_eq_false]; intro x hx; simp [h x hx]
    rw [this]; rfl
  | some i =>
    obtain ⟨hi, hp, _⟩ := List.findIdx?_eq_some_iff_getElem.1 h
    have : l.any P = true := by rw [List.any_eq_true]; exact ⟨_, List.getElem_mem hi, hp⟩
    rw [this]
    exact decide_eq_true (Int.natCast_nonneg i)

set_option maxRecDepth 100000 in
set_option maxHeartbeats 1600000 in
theorem in_any (p q : Nat) (who n : Int) (y : Rg) (w : World) (hp : w.cell? ⟨p, 0, none⟩ = some (.int .i64 who)) (hq : w.cell? ⟨q, 0, none⟩ = some (.int .i64 n)) :
    Calls Try.prog 32 #[.agg #[.int .i64 y.w, .int .i64 y.f, .int .i64 y.t], .pointer (some ⟨p, 0, none⟩), .pointer (some ⟨q, 0, none⟩)] w fun e w' => e = .returned (.bool (inB who n y)) ∧ Below w.heap.size w w' := by
  have h1 : inB who n y = (((y.w == who) && decide (y.f ≤ n)) && decide (n ≤ y.t)) := by
    unfold inB
    rw [Bool.eq_iff_iff]
    simp [and_assoc]
  rw [h1]
  clear h1
  obtain ⟨w1, hw1⟩ : ∃ w1, w1 = w.alloc (.cells #[.int .i64 y.w, .int .i64 y.f, .int .i64 y.t] 33) := ⟨_, rfl⟩
  have hB := Blk.rg_new w y
  have hb : Below w.heap.size w (w.alloc (.cells #[.int .i64 y.w, .int .i64 y.f, .int .i64 y.t] 33)) := (Below.refl _ w).alloc (Nat.le_refl _) _
  rw [← hw1] at hB hb
  have hp1 := cell_below hb (cell_lt hp) hp
  have hq1 := cell_below hb (cell_lt hq) hq
  have HB := Lib.hid hb
  rw [hw1] at hp1 hq1
  clear hb hB hp hq
  cases h0 : (y.w == who) <;> cases h1 : decide (y.f ≤ n)
  all_goals
    go_enter Try.func32, Try.ntmps32
    go_wp2_with fail
    rw [← hw1]
    go_ret
    exact ⟨by simp, HB.out⟩

set_option maxRecDepth 100000 in
set_option maxHeartbeats 1600000 in
theorem contains_any (p q : Nat) (who n : Int) (A : Option Addr) (len c : Nat) (ps : List Rg) (w : World) (hx : Sl w 3 RgC A len c ps) (hm : len ≤ 1000000) (hp : w.cell? ⟨p, 0, none⟩ = some (.int .i64 who)) (hq : w.cell? ⟨q, 0, none⟩ = some (.int .i64 n)) :
    Calls Try.prog 31 #[.slice A len c, .func (.func 32) #[] #[.pointer (some ⟨p, 0, none⟩), .pointer (some ⟨q, 0, none⟩)]] w fun e w' => e = .returned (.bool (hasB ps who n)) ∧ Below w.heap.size w w' := by
  have H := Lib.hid (index32 p q (inB who n) A len c ps w hx hm (fun y _ W hW => in_any p q who n y W (cell_below hW (cell_lt hp) hp) (cell_below hW (cell_lt hq) hq)))
  have hf := first_has (inB who n) ps
  obtain ⟨f, hfe⟩ : ∃ f, firstR (inB who n) ps = f := ⟨_, rfl⟩
  obtain ⟨r, hre⟩ : ∃ r, hasB ps who n = r := ⟨_, rfl⟩
  rw [hfe] at H hf
  rw [hre]
  have hd : decide (f ≥ 0) = r := hf.trans hre
  clear hx hp hq hf hfe hre
  go_enter Try.func31, Try.ntmps31
  go_wp2_with fail
  refine H.out.mono ?_
  rintro e w' ⟨rfl, hb⟩
  go_wp2_with fail
  go_ret
  exact ⟨rfl, hb⟩

set_option maxRecDepth 100000 in
set_option maxHeartbeats 1600000 in
theorem has_any (g : Nat) (v : Value) (l : List Rg) (who n : Int) (w : World) (h : Idx 49 w g v l) (hm : l.length ≤ 100000) :
    Calls Try.prog 20 #[.pointer (some ⟨g, 0, none⟩), .int .i64 who, .int .i64 n] w fun e w' => e = .returned (.bool (hasB l who n)) ∧ Below w.heap.size w w' := by
  obtain ⟨w2, hw2⟩ : ∃ w2, w2 = (w.alloc (.cells #[.int .i64 who] 3)).alloc (.cells #[.int .i64 n] 3) := ⟨_, rfl⟩
  have hb2 : Below w.heap.size w w2 := by rw [hw2]; exact ((Below.refl _ w).alloc (Nat.le_refl _) _).alloc (by simp) _
  have hp : w2.cell? ⟨w.heap.size, 0, none⟩ = some (.int .i64 who) := by rw [hw2]; simp [go_sem]
  have hq : w2.cell? ⟨w.heap.size + 1, 0, none⟩ = some (.int .i64 n) := by rw [hw2]; simp [go_sem]
  have HR := Lib.hid (ranges_any g v l w2 (h.below hb2) (by omega))
  have HW := Lib.hid hw2
  have HB := Lib.hid hb2
  have HP := Lib.hid hp
  have HQ := Lib.hid hq
  have HRt := Lib.hid h.right
  clear hw2 hb2 hp hq h
  go_enter Try.func20, Try.ntmps20
  go_wp2_with fail
  rw [← HW.out]
  refine HR.out.mono ?_
  rintro e w3 ⟨u, rfl, ho, hb3⟩
  obtain ⟨A, c, rfl, hs⟩ := ho.sl (fun x hx => (HRt.out x hx).r64)
  have HC := Lib.hid (contains_any w.heap.size (w.heap.size + 1) who n A l.length c l w3 hs (by omega) (cell_below hb3 (cell_lt HP.out) HP.out) (cell_below hb3 (cell_lt HQ.out) HQ.out))
  have HB3 := Lib.hid (HB.out.trans (hb3.mono HB.out.size))
  clear hs ho hb3
  go_wp2_with fail
  refine HC.out.mono ?_
  rintro e w4 ⟨rfl, hb4⟩
  have hb5 := HB3.out.trans (hb4.mono HB3.out.size)
  clear hb4
  go_wp2_with fail
  go_ret
  exact ⟨rfl, hb5⟩
set_option maxRecDepth 100000 in
set_option maxHeartbeats 1600000 in
theorem has_nil (who n : Int) (w : World) : Calls Try.prog 20 #[.pointer none, .int .i64 who, .int .i64 n] w fun e w' => e = .returned (.bool false) ∧ Below w.heap.size w w' := by
  obtain ⟨w2, hw2⟩ : ∃ w2, w2 = (w.alloc (.cells #[.int .i64 who] 3)).alloc (.cells #[.int .i64 n] 3) := ⟨_, rfl⟩
  have hb2 : Below w.heap.size w w2 := by rw [hw2]; exact ((Below.refl _ w).alloc (Nat.le_refl _) _).alloc (by simp) _
  have hp : w2.cell? ⟨w.heap.size, 0, none⟩ = some (.int .i64 who) := by rw [hw2]; simp [go_sem]
  have hq : w2.cell? ⟨w.heap.size + 1, 0, none⟩ = some (.int .i64 n) := by rw [hw2]; simp [go_sem]
  have HC := Lib.hid (contains_any w.heap.size (w.heap.size + 1) who n none 0 0 [] w2 Sl.nil_ (by omega) hp hq)
  have HW := Lib.hid hw2
  have HB := Lib.hid hb2
  clear hw2 hb2 hp hq
  go_enter Try.func20, Try.ntmps20
  go_wp2_with (first | (go_at_call 16; refine (ranges_nil _).mono ?_; rintro e w3 ⟨rfl, rfl⟩))
  rw [← HW.out]
  refine HC.out.mono ?_
  rintro e w4 ⟨rfl, hb4⟩
  have hb5 := HB.out.trans (hb4.mono HB.out.size)
  clear hb4
  go_wp2_with fail
  go_ret
  exact ⟨rfl, hb5⟩

set_option maxRecDepth 100000 in
set_option maxHeartbeats 1600000 in
theorem rhas_any (g : Nat) (v : Value) (l : List Rg) (who n : Int) (w : World) (h : Idx 28 w g v l) (hm : l.length ≤ 100000) :
    Calls Try.prog 21 #[.pointer (some ⟨g, 0, none⟩), .int .i64 who, .int .i64 n] w fun e w' => e = .returned (.bool (hasB l who n)) ∧ w = w' := by
  have hc := h.cell
  have hl := h.lt
  obtain ⟨A, c, rfl, hx⟩ := h.sl
  obtain ⟨r, hre⟩ : ∃ r, hasB l who n = r := ⟨_, rfl⟩
  rw [hre]
  have HX := Lib.hid hx
  have HR := Lib.hid hre
  clear h hx hre
  go_enter Try.func21, Try.ntmps21
  go_wp2_with fail
  go_loopw [7] (fun i wr => ∃ k : Nat, k ≤ l.length ∧ i = .int .i64 k ∧ w = wr ∧ hasB (l.take k) who n = false) (fun i _ => l.length - (intOf i).toNat)
  case atStart => exact ⟨0, by omega, rfl, rfl, rfl⟩
  case round =>
    obtain ⟨k, hk, rfl, rfl, hno⟩ := hrel
    rcases Nat.lt_or_ge k l.length with hkl | hge
    · obtain ⟨b, off, rfl, hbl, c0, c1, c2, _⟩ := Sl.rg_at HX.out hkl
      have htk := List.take_succ_eq_append_getElem hkl
      obtain ⟨x, hx⟩ : ∃ x, l[k] = x := ⟨_, rfl⟩
      have hmem : x ∈ l := by rw [← hx]; exact List.getElem_mem hkl
      rw [hx] at c0 c1 c2 htk
      have h1 : inB who n x = (((x.w == who) && decide (x.f ≤ n)) && decide (n ≤ x.t)) := by
        unfold inB
        rw [Bool.eq_iff_iff]
        simp [and_assoc]
      have hstep : hasB (l.take (k + 1)) who n = inB who n x := by
        rw [htk]
        unfold hasB at hno ⊢
        rw [List.any_append, hno]
        simp
      have hyes : inB who n x = true → r = true := fun h => by
        rw [← HR.out]
        unfold hasB
        rw [List.any_eq_true]
        exact ⟨x, hmem, h⟩
      rw [h1] at hstep hyes
      have HS := Lib.hid hstep
      have HY := Lib.hid hyes
      clear hstep hyes h1 hno htk hx hmem
      cases h0 : (x.w == who) <;> cases h1 : decide (x.f ≤ n) <;> cases h2 : decide (n ≤ x.t)
      case true.true.true =>
        have hr : r = true := HY.out (by simp [h0, h1, h2])
        subst hr
        go_wp2_with fail
        go_ret
        exact ⟨rfl, rfl⟩
      all_goals
        go_wp2_with fail
        exact ⟨⟨k + 1, by omega, by go_num, by simp [HS.out, h0, h1, h2]⟩, by simp [intOf]; omega⟩
    · obtain rfl : k = l.length := by omega
      rw [List.take_length] at hno
      have hr : r = false := HR.out.symm.trans hno
      subst hr
      go_wp2_with fail
      go_ret
      exact ⟨rfl, rfl⟩
end Go.Proofs.Ytkkmleglaljacaa
