/- The law on the numbers that are there. -/
import Derived.Test.YtkkmleglaljacaaS
namespace Go.Proofs.Ytkkmleglaljacaa
open Go.RowKit

/-- is the number in one of the right ranges? -/
def wantB (xs : List Rg) (who n : Int) : Bool := hasB (xs.filter rightB) who n
theorem want_snoc (xs : List Rg) (who n : Int) (k : Nat) (hk : k < xs.length) : wantB (xs.take (k + 1)) who n = (wantB (xs.take k) who n || (rightB xs[k] && inB who n xs[k])) := by
  unfold wantB
  rw [filter_plus xs k hk]
  unfold hasB plusR
  rw [List.any_append]
  cases rightB xs[k] <;> simp
theorem want_is {l xs : List Rg} (h : Is l (xs.filter rightB)) (who n : Int) : hasB l who n = wantB xs who n := by
  unfold wantB
  rw [Bool.eq_iff_iff, hasB_cov, hasB_cov]
  exact h.2 who n
theorem inB_parts (who n : Int) (y : Rg) : inB who n y = (((y.w == who) && decide (y.f ≤ n)) && decide (n ≤ y.t)) := by
  unfold inB
  rw [Bool.eq_iff_iff]
  simp [and_assoc]

set_option maxRecDepth 100000 in
set_option maxHeartbeats 3200000 in
theorem law_has (A1 : Option Addr) (n1 c1 : Nat) (xs : List Rg) (who n : Int) (w : World) (hx : Sl w 3 RgC A1 n1 c1 xs) (_h1 : I64 who) (_h2 : I64 n) :
    Calls Try.prog 6 #[.slice A1 n1 c1, .agg #[.int .i64 who, .int .i64 n]] w fun e w' => e = .returned (.bool true) ∧ Below w.heap.size w w' := by
  have hl1 := hx.len
  have hm1 := hx.max
  have hle1 := hx.le
  obtain ⟨w0, hw0⟩ : ∃ w0, w0 = w.alloc (.cells #[.int .i64 who, .int .i64 n] 40) := ⟨_, rfl⟩
  have hb0 : Below w.heap.size w w0 := by rw [hw0]; exact (Below.refl _ w).alloc (Nat.le_refl _) _
  have hq : Blk w0 w.heap.size 40 #[.int .i64 who, .int .i64 n] := by rw [hw0]; exact Blk.new _ _ _
  have HW0 := Lib.hid hw0
  have HB0 := Lib.hid hb0
  have HQ0 := Lib.hid hq
  clear hw0 hb0 hq
  by_cases hbig : n1 > 100
  · have d1 : decide ((n1 : Int) > 100) = true := decide_eq_true (by omega)
    clear hbig hx
    go_enter Try.func6, Try.ntmps6
    go_wp2_with fail
    rw [← HW0.out]
    refine (new_any w0).mono ?_
    rintro e w1 ⟨rfl, hI, hb⟩
    have HB := Lib.hid (HB0.out.trans (hb.mono HB0.out.size))
    clear hI hb
    go_wp2_with fail
    refine (awake_any _).mono ?_
    rintro e w9 ⟨rfl, hb9⟩
    have hb10 := HB.out.trans (hb9.mono HB.out.size)
    clear hb9
    go_wp2_with fail
    go_ret
    exact ⟨rfl, hb10⟩
  have d1 : decide ((n1 : Int) > 100) = false := decide_eq_false (by omega)
  have hn1 : n1 ≤ 100 := by omega
  have HX := Lib.hid hx
  clear hbig hx
  go_enter Try.func6, Try.ntmps6
  go_wp2_with fail
  rw [← HW0.out]
  refine (new_any w0).mono ?_
  rintro e w1 ⟨rfl, hI, hb⟩
  have HI1 := Lib.hid hI
  have HQ1 := Lib.hid (HQ0.out.below hb HQ0.out.lt)
  have HB1 := Lib.hid (HB0.out.trans (hb.mono HB0.out.size))
  have hsz0 := HQ0.out.lt
  obtain ⟨g, hg⟩ : ∃ g, g = w0.heap.size := ⟨_, rfl⟩
  rw [← hg] at HI1
  have hqg : w.heap.size < g := by omega
  have HGe := Lib.hid hg
  clear hI hb hg
  go_wp2_with fail
  rw [← HGe.out]
  go_loopw [6, 7] (fun b i wr => ∃ (k : Nat) (l : List Rg) (vx : Value), k ≤ n1 ∧ i = .int .i64 k ∧ b = .bool (wantB (xs.take k) who n) ∧ Idx 49 wr g vx l ∧ Is l ((xs.take k).filter rightB) ∧ l.length ≤ k ∧ Below w.heap.size w wr ∧ Blk wr w.heap.size 40 #[.int .i64 who, .int .i64 n]) (fun _ i _ => n1 - (intOf i).toNat)
  case atStart => exact ⟨0, [], _, by omega, rfl, rfl, HI1.out, Is.nil_, by simp, HB1.out, HQ1.out⟩
  case round =>
    obtain ⟨k, l, vx, hk, rfl, rfl, hIx, hIs, hll, hB, hQ⟩ := hrel
    rcases Nat.lt_or_ge k n1 with hlt | hge
    · have hkl : k < xs.length := by omega
      obtain ⟨b, off, rfl, hbl, c0, c1', c2', _⟩ := Sl.rg_at HX.out hkl
      have d0 := cell_below hB hbl c0
      have d1' := cell_below hB hbl c1'
      have d2' := cell_below hB hbl c2'
      have hf := filter_plus xs k hkl
      have hws := want_snoc xs who n k hkl
      obtain ⟨x, hxx⟩ : ∃ x, xs[k] = x := ⟨_, rfl⟩
      rw [hxx] at c0 c1' c2' d0 d1' d2' hf hws
      rw [inB_parts] at hws
      have HC := Lib.hid (And.intro c0 (And.intro c1' c2'))
      have HA := Lib.hid (add_any _ vx l x wr hIx (by omega))
      have HB := Lib.hid hB
      have HQ := Lib.hid hQ
      have HIs := Lib.hid hIs
      have HF := Lib.hid hf
      have HIx := Lib.hid hIx
      obtain ⟨want, hwe⟩ : ∃ b, wantB (xs.take k) who n = b := ⟨_, rfl⟩
      rw [hwe] at hws ⊢
      have HWS := Lib.hid hws
      clear hIx hB hxx c0 c1' c2' hQ hIs hf hws hwe
      go_wp2_with fail
      refine HA.out.mono ?_
      rintro e w2 ⟨v2, l2, a2, e2, rfl, hA⟩
      have hB2 := below_gb HB.out hA.by_ (by omega) HB.out.size
      have hQ2 := HQ.out.grown hA.by_ (fun e => Nat.ne_of_lt hqg (by cases e; rfl))
      have q := HC.out
      have f0 := cell_below hB2 hbl q.1
      have f1 := cell_below hB2 hbl q.2.1
      have f2 := cell_below hB2 hbl q.2.2
      have qc0 : w2.cell? ⟨w.heap.size, 0, none⟩ = some (.int .i64 who) := by rw [hQ2.cell]; rfl
      have qc1 : w2.cell? ⟨w.heap.size, 1, none⟩ = some (.int .i64 n) := by rw [hQ2.cell]; rfl
      have HP := Lib.hid (And.intro hA.idx (And.intro (hA.is _ HIs.out) (And.intro hA.len (And.intro hB2 hQ2))))
      have htold := hA.told
      clear hA hB2 hQ2 q d0 d1' d2'
      have hfin : ∀ (r : Bool), r = (want || (rightB x && (((x.w == who) && decide (x.f ≤ n)) && decide (n ≤ x.t)))) → ∀ nq, (∃ (k1 : Nat) (l : List Rg) (vx : Value), k1 ≤ n1 ∧ Value.int .i64 ((k : Int) + 1) = .int .i64 k1 ∧ Value.bool r = .bool (wantB (xs.take k1) who n) ∧ Idx 49 (w2.drewN nq) g vx l ∧ Is l ((xs.take k1).filter rightB) ∧ l.length ≤ k1 ∧ Below w.heap.size w (w2.drewN nq) ∧ Blk (w2.drewN nq) w.heap.size 40 #[.int .i64 who, .int .i64 n]) := by
        intro r hr nq
        have hbq : Below w2.heap.size w2 (w2.drewN nq) := ⟨rfl, rfl, rfl, Nat.le_refl _, fun _ _ => rfl⟩
        obtain ⟨p1, p2, p3, p4, p5⟩ := HP.out
        exact ⟨k + 1, l2, v2, by omega, by go_num, by rw [HWS.out, ← hr], p1.below hbq, by rw [HF.out]; exact p2, by omega, p4.trans (hbq.mono p4.size), p5⟩
      have HFin := Lib.hid hfin
      clear hfin
      cases want with
      | true =>
        have hr := HFin.out true (by simp)
        have HR := Lib.hid hr
        clear hr htold
        go_wp2_with fail
        go_quiet (fail)
        go_wp2_with fail
        exact ⟨HR.out nq, by simp [intOf]; omega⟩
      | false =>
        rcases htold with ⟨hrb, _, rfl⟩ | ⟨hrb, _, rfl⟩
        · have h0 := HFin.out
          rw [hrb] at h0
          have HR := Lib.hid h0
          clear h0 HFin
          cases h0 : (x.w == who) <;> cases h1 : decide (x.f ≤ n) <;> cases h2 : decide (n ≤ x.t)
          all_goals
            go_wp2_with fail
            go_quiet (fail)
            go_wp2_with fail
            exact ⟨HR.out _ (by simp [h0, h1, h2]) nq, by simp [intOf]; omega⟩
        · have h0 := HFin.out false (by rw [hrb]; simp)
          have HR := Lib.hid h0
          clear h0 HFin
          go_wp2_with fail
          go_quiet (fail)
          go_wp2_with fail
          exact ⟨HR.out nq, by simp [intOf]; omega⟩
    · obtain rfl : k = n1 := by omega
      rw [List.take_of_length_le (by omega)] at hIs ⊢
      have hwant := want_is hIs who n
      obtain ⟨want, hwe⟩ : ∃ b, wantB xs who n = b := ⟨_, rfl⟩
      rw [hwe] at hwant ⊢
      have qc0 : wr.cell? ⟨w.heap.size, 0, none⟩ = some (.int .i64 who) := by rw [hQ.cell]; rfl
      have qc1 : wr.cell? ⟨w.heap.size, 1, none⟩ = some (.int .i64 n) := by rw [hQ.cell]; rfl
      have HH := Lib.hid (has_any g vx l who n wr hIx (by omega))
      rw [hwant] at HH
      have hne : (want != want) = false := by cases want <;> rfl
      have HI := Lib.hid hIx
      have HB := Lib.hid hB
      clear hIx hB hIs hwant hwe hQ
      go_wp2_with fail
      refine HH.out.mono ?_
      rintro e w2 ⟨rfl, hb2⟩
      have HI2 := Lib.hid (HI.out.below hb2)
      have HB2 := Lib.hid (HB.out.trans (hb2.mono HB.out.size))
      have HR := Lib.hid (rang_any g vx l w2 HI2.out (by omega))
      clear hb2 qc0 qc1
      go_wp2_with fail
      refine HR.out.mono ?_
      rintro e w3 ⟨A3, c3, rfl, hs3, hb3⟩
      have HB3 := Lib.hid (HB2.out.trans (hb3.mono HB2.out.size))
      have HS3 := Lib.hid hs3
      have hmx3 := hs3.max
      have hle3 := hs3.le
      clear hs3 hb3
      go_wp2_with fail
      go_loopw [11] (fun i wq => ∃ (j : Nat), j ≤ l.length ∧ i = .int .i64 j ∧ Below w3.heap.size w3 wq) (fun i _ => l.length - (intOf i).toNat)
      case atStart => exact ⟨0, by omega, rfl, Below.refl _ _⟩
      case round =>
        obtain ⟨j, hj, rfl, hB⟩ := hrel
        rcases Nat.lt_or_ge j l.length with hjl | hjg
        · obtain ⟨b, off, rfl, hbl, c0, c1', c2', _⟩ := Sl.rg_at HS3.out hjl
          have d0 := cell_below hB hbl c0
          have d1' := cell_below hB hbl c1'
          have d2' := cell_below hB hbl c2'
          have hxr := HI.out.right l[j] (List.getElem_mem hjl)
          have HB4 := Lib.hid hB
          have hbq : ∀ nq, Below w3.heap.size w3 (wr.drewN nq) := fun nq => hB.trans ⟨rfl, rfl, rfl, Nat.le_refl _, fun _ _ => rfl⟩
          have HBq := Lib.hid hbq
          cases j with
          | zero =>
            obtain ⟨x, hxx⟩ : ∃ x, l[0] = x := ⟨_, rfl⟩
            rw [hxx] at d0 d1' d2' hxr
            simp only [Nat.zero_mul, Nat.add_zero] at d0 d1' d2'
            have t1 : decide (x.f > x.t) = false := decide_eq_false (by unfold RightR at hxr; omega)
            clear c0 c1' c2' hxx hB hbq hxr
            go_wp2_with fail
            go_quiet (fail)
            go_wp2_with fail
            exact ⟨⟨1, by omega, by go_num, HBq.out nq⟩, by simp [intOf]; omega⟩
          | succ m =>
            have hml : m < l.length := by omega
            obtain ⟨b', off', he, _, e0, e1, e2, _⟩ := Sl.rg_at HS3.out hml
            cases he
            have e0 := cell_below hB hbl e0
            have e1 := cell_below hB hbl e1
            have e2 := cell_below hB hbl e2
            have hap : Apart l[m] l[m + 1] := (List.pairwise_iff_getElem.1 HI.out.canon.1) m (m + 1) hml hjl (by omega)
            have hyr := HI.out.right l[m] (List.getElem_mem hml)
            obtain ⟨x, hxx⟩ : ∃ x, l[m + 1] = x := ⟨_, rfl⟩
            obtain ⟨y, hyy⟩ : ∃ y, l[m] = y := ⟨_, rfl⟩
            rw [hxx] at d0 d1' d2' hxr hap
            rw [hyy] at e0 e1 e2 hyr hap
            unfold RightR at hxr hyr
            unfold Apart at hap
            have t1 : decide (x.f > x.t) = false := decide_eq_false (by omega)
            have t2 : decide (y.w > x.w) = false := decide_eq_false (by omega)
            obtain ⟨_, _, _, _, hy4⟩ := hyr
            have hy3 : -1099511627776 ≤ y.t := by omega
            clear c0 c1' c2' hxx hyy hB hbq
            by_cases hw : y.w = x.w
            case' pos =>
              have t3 : (y.w == x.w) = true := by simp [hw]
              have t4 : decide (y.t + 1 ≥ x.f) = false := decide_eq_false (by omega)
              clear hw hap hxr
            case' neg =>
              have t3 : (y.w == x.w) = false := by simp [hw]
              clear hw hap hxr
            all_goals
              go_wp2_with fail
              go_quiet (fail)
              go_wp2_with fail
              exact ⟨⟨m + 1 + 1, by omega, by go_num, HBq.out nq⟩, by simp [intOf]; omega⟩
        · obtain rfl : j = l.length := by omega
          have HB9 := Lib.hid (HB3.out.trans (hB.mono HB3.out.size))
          clear hB
          go_wp2_with fail
          refine (awake_any _).mono ?_
          rintro e w9 ⟨rfl, hb9⟩
          have hb10 := HB9.out.trans (hb9.mono HB9.out.size)
          clear hb9
          go_wp2_with fail
          go_ret
          exact ⟨rfl, hb10⟩
end Go.Proofs.Ytkkmleglaljacaa
