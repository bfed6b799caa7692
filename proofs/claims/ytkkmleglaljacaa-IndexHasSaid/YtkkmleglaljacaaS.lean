/- The laws on a nil index, and on vectors. -/
import Derived.Test.YtkkmleglaljacaaR
namespace Go.Proofs.Ytkkmleglaljacaa
open Go.RowKit

set_option maxRecDepth 100000 in
set_option maxHeartbeats 400000 in
theorem add_nil (x : Rg) (w : World) : Calls Try.prog 11 #[.pointer none, .agg #[.int .i64 x.w, .int .i64 x.f, .int .i64 x.t]] w fun e w' => e = .returned (.tuple #[.int .i64 0, .int .i64 2]) ∧ Below w.heap.size w w' := by
  go_enter Try.func11, Try.ntmps11
  go_wp2_with fail
  exact bodyPost_ret (v := .tuple #[.int .i64 0, .int .i64 2]) (by simp [results, Try.results11, go_sem]) rfl ⟨rfl, (Below.refl _ w).alloc (Nat.le_refl _) _⟩
set_option maxRecDepth 100000 in
set_option maxHeartbeats 400000 in
theorem vector_nil (w : World) : Calls Try.prog 18 #[.pointer none] w fun e w' => e = .returned (.slice none 0 0) ∧ w = w' := by
  go_enter Try.func18, Try.ntmps18
  go_wp2_with (go_at_call 16; refine (ranges_nil _).mono ?_; rintro e w3 ⟨rfl, rfl⟩)
  go_loopw [3, 9] (fun u i wr => u = .slice none 0 0 ∧ i = .int .i64 0 ∧ w = wr) (fun _ _ _ => 0)
  case atStart => exact ⟨rfl, rfl, rfl⟩
  case round =>
    obtain ⟨rfl, rfl, rfl⟩ := hrel
    go_wp2_with fail
    go_ret
    exact ⟨rfl, rfl⟩

set_option maxRecDepth 100000 in
set_option maxHeartbeats 3200000 in
theorem law_nil (x : Rg) (w : World) (hx : R64 x) :
    Calls Try.prog 7 #[.agg #[.int .i64 x.w, .int .i64 x.f, .int .i64 x.t]] w fun e w' => e = .returned (.bool true) ∧ Below w.heap.size w w' := by
  obtain ⟨w1, hw1⟩ : ∃ w1, w1 = w.alloc (.cells #[.int .i64 x.w, .int .i64 x.f, .int .i64 x.t] 33) := ⟨_, rfl⟩
  have hb1 : Below w.heap.size w w1 := by rw [hw1]; exact (Below.refl _ w).alloc (Nat.le_refl _) _
  have hX : Blk w1 w.heap.size 33 #[.int .i64 x.w, .int .i64 x.f, .int .i64 x.t] := by rw [hw1]; exact Blk.new _ _ _
  have HW1 := Lib.hid hw1
  have HB1 := Lib.hid hb1
  have HX1 := Lib.hid hX
  have hnot : ∀ (x : Bool) (w : World), (Op.unary .not (.bool x)).run Try.prog w = .ok (.bool (!x)) w := fun _ _ => rfl
  clear hw1 hb1 hX
  go_enter Try.func7, Try.ntmps7
  go_wp2_with fail
  rw [← HW1.out]
  refine (add_nil x w1).mono ?_
  rintro e w2 ⟨rfl, hb2⟩
  have HX2 := Lib.hid (HX1.out.below hb2 HX1.out.lt)
  have HB2 := Lib.hid (HB1.out.trans (hb2.mono HB1.out.size))
  obtain ⟨x0, x1, x2⟩ := blk3 HX2.out
  clear hb2
  go_wp2_with fail
  refine (gaps_nil [x] _ 1 1 _ (sl1 w2 x hx) (by omega)).mono ?_
  rintro e w3 ⟨A3, c3, J, rfl, hJ, hs3, hb3⟩
  have hb23 : Below w2.heap.size w2 w3 := ((Below.refl _ w2).alloc (Nat.le_refl _) _).trans (hb3.mono (by simp))
  have HX3 := Lib.hid (HX2.out.below hb23 HX2.out.lt)
  have HB3 := Lib.hid (HB2.out.trans (hb23.mono HB2.out.size))
  have HS3 := Lib.hid hs3
  have HJ := Lib.hid hJ
  clear hb3 hb23 hs3 hJ x0 x1 x2
  obtain ⟨x0, x1, x2⟩ := blk3 HX3.out
  go_wp2_with fail
  refine (has_nil _ _ _).mono ?_
  rintro e w4 ⟨rfl, hb4⟩
  have HX4 := Lib.hid (HX3.out.below hb4 HX3.out.lt)
  have HB4 := Lib.hid (HB3.out.trans (hb4.mono HB3.out.size))
  have HS4 := Lib.hid (HS3.out.below hb4)
  clear hb4 x0 x1 x2
  obtain ⟨x0, x1, x2⟩ := blk3 HX4.out
  have HR := Lib.hid (fun W => Right_any x W)
  unfold rv at HR
  by_cases hr : RightR x
  · have hb : rightB x = true := decide_eq_true hr
    have eJ : J = [x] := HJ.out.one (by
      rw [show [x].filter rightB = [x] by simp [hb]]
      exact ⟨⟨List.pairwise_singleton _ _, by simpa using hr.le⟩, fun _ _ => Iff.rfl⟩)
    rw [hb] at HR
    rw [eJ] at HS4 ⊢
    simp only [List.length_cons, List.length_nil] at HS4 ⊢
    go_wp2_with (first | (go_at_call 16; refine (ranges_nil _).mono ?_; rintro e w5 ⟨rfl, rfl⟩) | (go_at_call 18; refine (vector_nil _).mono ?_; rintro e w5 ⟨rfl, rfl⟩))
    refine (HR.out _).mono ?_
    rintro e w6 ⟨rfl, hb6⟩
    have HX6 := Lib.hid (HX4.out.below hb6 HX4.out.lt)
    have HB6 := Lib.hid (HB4.out.trans (hb6.mono HB4.out.size))
    have HS6 := Lib.hid (HS4.out.below hb6)
    clear hb6 x0 x1 x2
    obtain ⟨x0, x1, x2⟩ := blk3 HX6.out
    go_wp2_with fail
    refine (same_any _ c3 1 1 A3 _ [x] [x] _ (HS6.out.below ((Below.refl _ _).alloc (Nat.le_refl _) _)) (sl1 w6 x hx) (by simp) (by simp)).mono ?_
    rintro e w7 ⟨rfl, hb7⟩
    rw [show sameB [x] [x] = true from by unfold sameB; simp]
    have HB7 := Lib.hid (HB6.out.trans ((((Below.refl _ w6).alloc (Nat.le_refl _) (.cells #[.int .i64 x.w, .int .i64 x.f, .int .i64 x.t] 33)).trans (hb7.mono (by simp))).mono HB6.out.size))
    clear hb7 x0 x1 x2
    go_wp2_with fail
    refine (awake_any _).mono ?_
    rintro e w9 ⟨rfl, hb9⟩
    have hb10 := HB7.out.trans (hb9.mono HB7.out.size)
    clear hb9
    go_wp2_with fail
    go_ret
    exact ⟨rfl, hb10⟩
  · have hb : rightB x = false := decide_eq_false hr
    have eJ : J = [] := HJ.out.one (by
      rw [show [x].filter rightB = [] by simp [hb]]
      exact Is.nil_)
    rw [hb] at HR
    rw [eJ] at HS4 ⊢
    simp only [List.length_nil] at HS4 ⊢
    go_wp2_with (first | (go_at_call 16; refine (ranges_nil _).mono ?_; rintro e w5 ⟨rfl, rfl⟩) | (go_at_call 18; refine (vector_nil _).mono ?_; rintro e w5 ⟨rfl, rfl⟩))
    refine (HR.out _).mono ?_
    rintro e w6 ⟨rfl, hb6⟩
    have HX6 := Lib.hid (HX4.out.below hb6 HX4.out.lt)
    have HB6 := Lib.hid (HB4.out.trans (hb6.mono HB4.out.size))
    clear hb6 x0 x1 x2
    obtain ⟨x0, x1, x2⟩ := blk3 HX6.out
    go_wp2_with fail
    refine (HR.out _).mono ?_
    rintro e w7 ⟨rfl, hb7⟩
    have HB7 := Lib.hid (HB6.out.trans (hb7.mono HB6.out.size))
    clear hb7 x0 x1 x2
    go_wp2_with fail
    refine (awake_any _).mono ?_
    rintro e w9 ⟨rfl, hb9⟩
    have hb10 := HB7.out.trans (hb9.mono HB7.out.size)
    clear hb9
    go_wp2_with fail
    go_ret
    exact ⟨rfl, hb10⟩

theorem pair_cases {l : List Rg} (h : l.Pairwise Apart) : ∀ {x y : Rg}, x ∈ l → y ∈ l → x = y ∨ Apart x y ∨ Apart y x := by
  induction l with
  | nil => intro x y hx; cases hx
  | cons a l ih =>
    obtain ⟨h1, h2⟩ := List.pairwise_cons.1 h
    intro x y hx hy
    rcases List.mem_cons.1 hx with e1 | e1
    · rcases List.mem_cons.1 hy with e2 | e2
      · exact .inl (e1.trans e2.symm)
      · exact .inr (.inl (by rw [e1]; exact h1 y e2))
    · rcases List.mem_cons.1 hy with e2 | e2
      · exact .inr (.inr (by rw [e2]; exact h1 x e1))
      · exact ih h2 e1 e2
theorem not_next2 {l : List Rg} (hc : Canon l) {x : Rg} (hx : x ∈ l) : ¬ cov l x.w (x.t + 1) := by
  rintro ⟨y, hy, h1, h2, h3⟩
  have a1 := hc.2 x hx
  have a2 := hc.2 y hy
  rcases pair_cases hc.1 hx hy with e | e | e
  · subst e; omega
  · unfold Apart at e; omega
  · unfold Apart at e; omega
/-- the number of a device in the vector -/
theorem vec_nth {l : List Rg} (hc : Canon l) (hr : ∀ y ∈ l, RightR y) (j : Nat) :
    (hasB l j (nth (vecL [] l) j + 1) = false) ∧ (nth (vecL [] l) j = 0 ∨ (0 < nth (vecL [] l) j ∧ nth (vecL [] l) j ≤ 1099511627776 ∧ hasB l j 1 = true ∧ hasB l j (nth (vecL [] l) j) = true ∧ ∀ n, 1 ≤ n → n ≤ nth (vecL [] l) j → cov l j n)) := by
  have h := vec_ok l [] hc hr (fun y hy _ => by simp)
  have key : (nth (vecL [] l) j = 0 ∧ ∀ y ∈ l, y.f ≤ 1 → y.w.toNat ≠ j) ∨ ∃ y ∈ l, y.f ≤ 1 ∧ y.w.toNat = j ∧ nth (vecL [] l) j = y.t := by
    rcases Nat.lt_or_ge j (vecL [] l).length with hj | hj
    · rcases h.no j (by simp) hj with ⟨e1, e2⟩ | ⟨y, hy, h1, h2⟩
      · exact .inl ⟨by unfold nth; rw [List.getD_eq_getElem?_getD, e1]; rfl, e2⟩
      · have h3 := h.at_ y hy h1
        rw [h2] at h3
        exact .inr ⟨y, hy, h1, h2, by unfold nth; rw [List.getD_eq_getElem?_getD, h3]; rfl⟩
    · exact .inl ⟨by unfold nth; rw [List.getD_eq_getElem?_getD, List.getElem?_eq_none hj]; rfl, h.off j hj⟩
  rcases key with ⟨e1, e2⟩ | ⟨y, hy, h1, h2, h3⟩
  · refine ⟨?_, .inl e1⟩
    rw [e1, Bool.eq_false_iff]
    intro hh
    obtain ⟨z, hz, z1, z2, z3⟩ := (hasB_cov l j (0 + 1)).1 hh
    have := hr z hz
    unfold RightR at this
    exact e2 z hz (by omega) (by omega)
  · have hyr := hr y hy
    unfold RightR at hyr
    have hw : y.w = j := by omega
    rw [h3]
    refine ⟨?_, .inr ⟨by omega, by omega, ?_, ?_, fun n n1 n2 => ⟨y, hy, hw, by omega, n2⟩⟩⟩
    · rw [Bool.eq_false_iff]
      intro hh
      have := (hasB_cov l j (y.t + 1)).1 hh
      rw [← hw] at this
      exact not_next2 hc hy this
    · exact (hasB_cov l j 1).2 ⟨y, hy, hw, h1, by omega⟩
    · exact (hasB_cov l j y.t).2 ⟨y, hy, hw, by omega, by omega⟩
theorem gaps_none {l : List Rg} {J s : List Rg} (hc : Canon l) (hJ : Is J s) (hs : ∀ w n, cov s w n → cov l w n) : gapsL J l = [] := by
  have h1 := gapsL_canon hc hJ.1
  cases hg : gapsL J l with
  | nil => rfl
  | cons x r =>
    exfalso
    have hx : x ∈ gapsL J l := by rw [hg]; simp
    have h2 := h1.2 x hx
    have h3 : cov (gapsL J l) x.w x.f := ⟨x, hx, rfl, Int.le_refl _, h2⟩
    obtain ⟨h4, h5⟩ := (gapsL_cov hc J x.w x.f).1 h3
    exact h5 (hs _ _ ((hJ.2 _ _).1 h4))

set_option maxRecDepth 100000 in
set_option maxHeartbeats 3200000 in
theorem law_vector (A1 : Option Addr) (n1 c1 : Nat) (xs : List Rg) (w : World) (hx : Sl w 3 RgC A1 n1 c1 xs) :
    Calls Try.prog 8 #[.slice A1 n1 c1] w fun e w' => e = .returned (.bool true) ∧ Below w.heap.size w w' := by
  have hl1 := hx.len
  have hm1 := hx.max
  have hle1 := hx.le
  by_cases hbig : n1 > 100
  · have d1 : decide ((n1 : Int) > 100) = true := decide_eq_true (by omega)
    clear hbig hx
    go_enter Try.func8, Try.ntmps8
    go_wp2_with fail
    refine (new_any w).mono ?_
    rintro e w1 ⟨rfl, hI, hb⟩
    have HB := Lib.hid hb
    clear hI hb
    go_wp2_with fail
    refine (awake_any _).mono ?_
    rintro e w9 ⟨rfl, hb9⟩
    have hb10 := HB.out.trans (hb9.mono HB.out.size)
    clear hb9
    go_wp2_with fail
    go_ret
    exact ⟨rfl, hb10⟩
  have d1 : decide ((n1 : Int) > 100) = false := decide_eq_false (by omega)
  have hn1 : n1 ≤ 100 := by omega
  have HX := Lib.hid hx
  clear hbig hx
  go_enter Try.func8, Try.ntmps8
  go_wp2_with fail
  refine (new_any w).mono ?_
  rintro e w1 ⟨rfl, hI, hb⟩
  have HI1 := Lib.hid hI
  have HB1 := Lib.hid hb
  clear hI hb
  go_wp2_with fail
  go_loopw [4] (fun i wr => ∃ (k : Nat) (l : List Rg) (vx : Value), k ≤ n1 ∧ i = .int .i64 k ∧ Idx 49 wr w.heap.size vx l ∧ l.length ≤ k ∧ Below w.heap.size w wr) (fun i _ => n1 - (intOf i).toNat)
  case atStart => exact ⟨0, [], _, by omega, rfl, HI1.out, by simp, HB1.out⟩
  case round =>
    obtain ⟨k, l, vx, hk, rfl, hIx, hll, hB⟩ := hrel
    rcases Nat.lt_or_ge k n1 with hlt | hge
    · have hkl : k < xs.length := by omega
      obtain ⟨b, off, rfl, hbl, c0, c1', c2', _⟩ := Sl.rg_at HX.out hkl
      have d0 := cell_below hB hbl c0
      have d1' := cell_below hB hbl c1'
      have d2' := cell_below hB hbl c2'
      obtain ⟨x, hxx⟩ : ∃ x, xs[k] = x := ⟨_, rfl⟩
      rw [hxx] at d0 d1' d2'
      have HA := Lib.hid (add_any _ vx l x wr hIx (by omega))
      have HB := Lib.hid hB
      clear hIx hB hxx c0 c1' c2'
      go_wp2_with fail
      refine HA.out.mono ?_
      rintro e w2 ⟨v2, l2, a2, e2, rfl, hA⟩
      have hB2 := below_gb HB.out hA.by_ (Nat.le_refl _) HB.out.size
      have HP := Lib.hid (And.intro hA.idx (And.intro hA.len hB2))
      clear hA hB2
      go_wp2_with fail
      obtain ⟨p1, p2, p3⟩ := HP.out
      exact ⟨⟨k + 1, l2, v2, by omega, by go_num, p1, by omega, p3⟩, by simp [intOf]; omega⟩
    · obtain rfl : k = n1 := by omega
      have HV := Lib.hid (vect_any _ vx l wr hIx (by omega))
      have HI := Lib.hid hIx
      have HB := Lib.hid hB
      have HN := Lib.hid (vec_nth hIx.canon hIx.right)
      have hvo := vec_ok l [] hIx.canon hIx.right (fun y hy _ => by simp)
      have hvl := hvo.len
      have hlast := hvo.last
      simp only [List.length_nil] at hvl
      obtain ⟨V, hV⟩ : ∃ V, vecL [] l = V := ⟨_, rfl⟩
      rw [hV] at HV HN hvl hlast
      have HL := Lib.hid hlast
      clear hIx hB hvo hV hlast
      go_wp2_with fail
      refine HV.out.mono ?_
      rintro e w2 ⟨A2, c2, rfl, hs2, hb2⟩
      have HI2 := Lib.hid (HI.out.below hb2)
      have HB2 := Lib.hid (HB.out.trans (hb2.mono HB.out.size))
      have HS2 := Lib.hid hs2
      clear hs2 hb2
      go_wp2_with fail
      go_loopw [6] (fun i wq => ∃ (j : Nat), j ≤ 15 ∧ i = .int .i64 j ∧ Below w2.heap.size w2 wq) (fun i _ => 15 - (intOf i).toNat)
      case atStart => exact ⟨0, by omega, rfl, Below.refl _ _⟩
      case round =>
        obtain ⟨j, hj, rfl, hB⟩ := hrel
        rcases Nat.lt_or_ge j 15 with hlt | hge2
        · obtain ⟨hh1, hh2⟩ := HN.out j
          have HI3 := Lib.hid (HI2.out.below hB)
          have HB3 := Lib.hid hB
          have hz : ¬ j < V.length → nth V j = 0 := fun h => by unfold nth; rw [List.getD_eq_getElem?_getD, List.getElem?_eq_none (by omega)]; rfl
          have hcell : j < V.length → ∃ b off, A2 = some ⟨b, off, none⟩ ∧ wr.cell? ⟨b, off + j, none⟩ = some (.int .i64 (nth V j)) := fun h => by
            obtain ⟨b, off, e, hbl, hc, _⟩ := Sl.int_at HS2.out h
            exact ⟨b, off, e, cell_below hB hbl hc⟩
          have HZ := Lib.hid hz
          have HCe := Lib.hid hcell
          obtain ⟨n, hn⟩ : ∃ n, nth V j = n := ⟨_, rfl⟩
          rw [hn] at hh1 hh2 HZ HCe
          have HH1 := Lib.hid (has_any _ vx l j (n + 1) wr HI3.out (by omega))
          rw [hh1] at HH1
          clear hB hz hcell hh1 hn
          have hnb : 0 ≤ n ∧ n ≤ 1099511627776 := by omega
          obtain ⟨nb0, nb1⟩ := hnb
          have HH2 := Lib.hid hh2
          clear hh2
          by_cases hjl : j < V.length
          · obtain ⟨b, off, rfl, hc⟩ := HCe.out hjl
            clear HZ HCe
            go_wp2_with fail
            refine HH1.out.mono ?_
            rintro e w3 ⟨rfl, hb3⟩
            have HI4 := Lib.hid (HI3.out.below hb3)
            have HB4 := Lib.hid (HB3.out.trans (hb3.mono HB3.out.size))
            clear hb3
            rcases HH2.out with h0 | ⟨h0, _, hh3, hh4, hh5⟩
            · have t1 : decide (n > 0) = false := decide_eq_false (by omega)
              clear HH2
              go_wp2_with fail
              exact ⟨⟨j + 1, by omega, by go_num, HB4.out⟩, by simp [intOf]; omega⟩
            · have t1 : decide (n > 0) = true := decide_eq_true h0
              have HP := Lib.hid hh5
              have H5 := Lib.hid (has_any _ vx l j 1 w3 HI4.out (by omega))
              rw [hh3] at H5
              clear HH2 hh3 hh5
              go_wp2_with fail
              refine H5.out.mono ?_
              rintro e w4 ⟨rfl, hb4⟩
              have HI5 := Lib.hid (HI4.out.below hb4)
              have HB5 := Lib.hid (HB4.out.trans (hb4.mono HB4.out.size))
              have H6 := Lib.hid (has_any _ vx l j n w4 HI5.out (by omega))
              rw [hh4] at H6
              clear hb4 hh4
              go_wp2_with fail
              refine H6.out.mono ?_
              rintro e w5 ⟨rfl, hb5⟩
              have HI6 := Lib.hid (HI5.out.below hb5)
              have HB6 := Lib.hid (HB5.out.trans (hb5.mono HB5.out.size))
              clear hb5
              have H7 := Lib.hid (gaps_any _ vx l [⟨j, 1, n⟩] _ 1 1 _ (HI6.out.below ((Below.refl _ _).alloc (Nat.le_refl _) (.cells #[.int .i64 j, .int .i64 1, .int .i64 n] 33))) (sl1 w5 ⟨j, 1, n⟩ (by unfold R64 I64; simp only; omega)) (by omega) (by omega))
              go_wp2_with fail
              refine H7.out.mono ?_
              rintro e w6 ⟨A6, c6, J, rfl, hJ, _, hb6⟩
              have hnone : gapsL J l = [] := gaps_none HI.out.canon hJ (fun w n' hc => by
                obtain ⟨g, hg, g1, g2, g3⟩ := hc
                have hg2 := List.mem_singleton.1 (List.mem_filter.1 hg).1
                subst hg2
                simp only at g1 g2 g3
                rw [← g1]
                exact HP.out n' g2 g3)
              rw [hnone]
              have HB7 := Lib.hid (HB6.out.trans ((((Below.refl _ w5).alloc (Nat.le_refl _) (.cells #[.int .i64 j, .int .i64 1, .int .i64 n] 33)).trans (hb6.mono (by simp))).mono HB6.out.size))
              simp only [List.length_nil]
              clear hb6 hJ hnone
              go_wp2_with fail
              exact ⟨⟨j + 1, by omega, by go_num, HB7.out⟩, by simp [intOf]; omega⟩
          · obtain rfl := HZ.out hjl
            clear HZ HCe HH2
            go_wp2_with fail
            refine HH1.out.mono ?_
            rintro e w3 ⟨rfl, hb3⟩
            have HB4 := Lib.hid (HB3.out.trans (hb3.mono HB3.out.size))
            clear hb3
            go_wp2_with fail
            exact ⟨⟨j + 1, by omega, by go_num, HB4.out⟩, by simp [intOf]; omega⟩
        · obtain rfl : j = 15 := by omega
          have hB9 := HB2.out.trans (hB.mono HB2.out.size)
          have HB9 := Lib.hid hB9
          rcases HL.out with hv | ⟨t, ht, ht0⟩
          · subst hv
            clear hB hB9
            simp only [List.length_nil] at *
            go_wp2_with fail
            refine (awake_any _).mono ?_
            rintro e w9 ⟨rfl, hb9⟩
            have hb10 := HB9.out.trans (hb9.mono HB9.out.size)
            clear hb9
            go_wp2_with fail
            go_ret
            exact ⟨rfl, hb10⟩
          · have hvl0 : 0 < V.length := by
              cases V with
              | nil => cases ht
              | cons _ _ => simp
            obtain ⟨m, hm⟩ : ∃ m, V.length = m + 1 := ⟨V.length - 1, by omega⟩
            obtain ⟨b, off, rfl, hbl, hc, _⟩ := Sl.int_at HS2.out (k := m) (by omega)
            have hnm : nth V m = t := by
              have h1 : V[m]? = some t := by rw [List.getLast?_eq_getElem?, hm] at ht; exact ht
              unfold nth
              rw [List.getD_eq_getElem?_getD, h1]
              rfl
            rw [hnm] at hc
            have hc2 := cell_below hB hbl hc
            have hd : decide (t > 0) = true := decide_eq_true ht0
            have HM := Lib.hid hm
            clear hB hB9 hc hnm ht
            rw [hm]
            go_wp2_with fail
            refine (awake_any _).mono ?_
            rintro e w9 ⟨rfl, hb9⟩
            have hb10 := HB9.out.trans (hb9.mono HB9.out.size)
            clear hb9
            go_wp2_with fail
            go_ret
            exact ⟨rfl, hb10⟩
end Go.Proofs.Ytkkmleglaljacaa
