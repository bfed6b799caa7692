/- The walk of the law on Join, Meet and Covers, and the plain law behind it. -/
import Derived.Test.YtdoghihjanlgpaaI
namespace Go.Proofs.Ytdoghihjanlgpaa
open Go.RowKit

theorem cutL_spec (xs : List Int) : ∃ l, l ≤ xs.length ∧ cutL xs = xs.take l ∧ ∀ j, l ≤ j → j < xs.length → nth xs j = 0 := by
  have H : ∀ l, l ≤ xs.length → (∀ j, l ≤ j → j < xs.length → nth xs j = 0) → ∃ l', l' ≤ xs.length ∧ cutL xs = xs.take l' ∧ ∀ j, l' ≤ j → j < xs.length → nth xs j = 0 := by
    intro l
    induction l with
    | zero => intro hl h0; exact ⟨0, hl, cutL_take xs 0 hl h0 (.inl rfl), h0⟩
    | succ l ih =>
      intro hl h0
      by_cases h : nth xs l = 0
      · exact ih (by omega) (fun j h1 h2 => by
          by_cases e : j = l
          · subst e; exact h
          · exact h0 j (by omega) h2)
      · exact ⟨l + 1, hl, cutL_take xs (l + 1) hl h0 (.inr h), h0⟩
  exact H xs.length (Nat.le_refl _) (fun j h1 h2 => absurd h2 (by omega))
theorem nth_take {xs : List Int} {l k : Nat} (h : k < l) : nth (xs.take l) k = nth xs k := by
  simp [nth, List.getElem?_take, h]
theorem atL_cut (xs : List Int) (k : Nat) : atL (cutL xs) k = atL xs k := by
  obtain ⟨l, hl, e, h0⟩ := cutL_spec xs
  rw [e]
  unfold atL
  rw [List.length_take]
  by_cases h : k < l
  · rw [if_pos (by omega), if_pos (by omega), nth_take h]
  · rw [if_neg (by omega)]
    by_cases h2 : k < xs.length
    · rw [if_pos h2, h0 k (by omega) h2]; rfl
    · rw [if_neg h2]
theorem atL_row {f : Nat → Int} {m : Nat} (h : ∀ k, 0 ≤ f k) (h0 : ∀ k, m ≤ k → f k = 0) (k : Nat) : atL (row f m) k = f k := by
  unfold atL
  rw [row_length]
  by_cases hk : k < m
  · rw [if_pos hk, nth_row f hk]; have := h k; omega
  · rw [if_neg hk, h0 k (by omega)]
theorem atL_nonneg (xs : List Int) (k : Nat) : 0 ≤ atL xs k := by unfold atL; split <;> omega
theorem atL_out {xs : List Int} {k : Nat} (h : xs.length ≤ k) : atL xs k = 0 := by unfold atL; rw [if_neg (by omega)]
theorem join2 (a b : List Int) (k : Nat) : joinN [a, b] k = max (atL a k) (atL b k) := by
  have := atL_nonneg a k; simp [joinN]; omega
theorem meet2 (a b : List Int) (k : Nat) : meetN [a, b] k = min (atL a k) (atL b k) := by
  show min (min (atL a k) (atL a k)) (atL b k) = _
  omega
theorem at_join (a b : List Int) (k : Nat) : atL (joinL [a, b]) k = max (atL a k) (atL b k) := by
  unfold joinL
  rw [atL_cut, atL_row (fun k => by rw [join2]; have := atL_nonneg a k; omega) (fun k hk => by
    rw [join2]
    have : max a.length b.length ≤ k := by simpa [longL] using hk
    rw [atL_out (by omega), atL_out (by omega)]; rfl), join2]
theorem at_meet (a b : List Int) (k : Nat) : atL (meetL [a, b]) k = min (atL a k) (atL b k) := by
  unfold meetL
  rw [atL_cut, atL_row (fun k => by rw [meet2]; have := atL_nonneg a k; have := atL_nonneg b k; omega) (fun k hk => by
    rw [meet2]
    have : max a.length b.length ≤ k := by simpa [longL] using hk
    rw [atL_out (by omega), atL_out (by omega)]; rfl), meet2]
theorem covers_iff (xs ys : List Int) : coversB xs ys = true ↔ ∀ k, atL ys k ≤ atL xs k := by
  unfold coversB
  rw [List.all_eq_true]
  refine ⟨fun h k => ?_, fun h k _ => by simpa using h k⟩
  by_cases hk : k < ys.length
  · simpa using h k (by simpa using hk)
  · rw [atL_out (by omega)]; exact atL_nonneg _ _
theorem join_comm (a b : List Int) : joinL [a, b] = joinL [b, a] := by
  have e1 : joinN [a, b] = joinN [b, a] := funext fun k => by rw [join2, join2]; omega
  have e2 : longL [a, b] = longL [b, a] := by simp [longL]; omega
  unfold joinL; rw [e1, e2]
theorem meet_comm (a b : List Int) : meetL [a, b] = meetL [b, a] := by
  have e1 : meetN [a, b] = meetN [b, a] := funext fun k => by rw [meet2, meet2]; omega
  have e2 : longL [a, b] = longL [b, a] := by simp [longL]; omega
  unfold meetL; rw [e1, e2]
theorem cov_j (a b : List Int) : coversB (joinL [a, b]) a = true := by rw [covers_iff]; intro k; rw [at_join]; omega
theorem cov_j' (a b : List Int) : coversB (joinL [a, b]) b = true := by rw [covers_iff]; intro k; rw [at_join]; omega
theorem cov_m (a b : List Int) : coversB a (meetL [a, b]) = true := by rw [covers_iff]; intro k; rw [at_meet]; omega
theorem cov_m' (a b : List Int) : coversB b (meetL [a, b]) = true := by rw [covers_iff]; intro k; rw [at_meet]; omega
theorem cov_cj (a b c : List Int) : coversB c (joinL [a, b]) = (coversB c a && coversB c b) := by
  rw [Bool.eq_iff_iff, Bool.and_eq_true, covers_iff, covers_iff, covers_iff]
  refine ⟨fun h => ⟨fun k => ?_, fun k => ?_⟩, fun h k => ?_⟩
  · have := h k; rw [at_join] at this; omega
  · have := h k; rw [at_join] at this; omega
  · have := h.1 k; have := h.2 k; rw [at_join]; omega
theorem cov_mc (a b c : List Int) : coversB (meetL [a, b]) c = (coversB a c && coversB b c) := by
  rw [Bool.eq_iff_iff, Bool.and_eq_true, covers_iff, covers_iff, covers_iff]
  refine ⟨fun h => ⟨fun k => ?_, fun k => ?_⟩, fun h k => ?_⟩
  · have := h k; rw [at_meet] at this; omega
  · have := h k; rw [at_meet] at this; omega
  · have := h.1 k; have := h.2 k; rw [at_meet]; omega

theorem rows_blk3 {w : World} {g : Nat} {t : TypeId} {A1 A2 A3 : Option Addr} {n1 c1 n2 c2 n3 c3 : Nat} {xs ys zs : List Int} (hx : Sl w 1 IntC A1 n1 c1 xs) (hy : Sl w 1 IntC A2 n2 c2 ys) (hz : Sl w 1 IntC A3 n3 c3 zs) (h : Blk w g t #[.slice A1 n1 c1, .slice A2 n2 c2, .slice A3 n3 c3]) : Rws w (some ⟨g, 0, none⟩) 3 3 [xs, ys, zs] :=
  ⟨rfl, by decide, by decide, fun i hi => by
    match i, hi with
    | 0, _ => exact ⟨g, 0, [.slice A1 n1 c1], rfl, h.lt, rfl, ⟨_, _, _, rfl, hx⟩, fun j u hu => by
        match j, hu with
        | 0, hu => rw [h.cell]; simpa using hu⟩
    | 1, _ => exact ⟨g, 0, [.slice A2 n2 c2], rfl, h.lt, rfl, ⟨_, _, _, rfl, hy⟩, fun j u hu => by
        match j, hu with
        | 0, hu => rw [h.cell]; simpa using hu⟩
    | 2, _ => exact ⟨g, 0, [.slice A3 n3 c3], rfl, h.lt, rfl, ⟨_, _, _, rfl, hz⟩, fun j u hu => by
        match j, hu with
        | 0, hu => rw [h.cell]; simpa using hu⟩⟩
theorem covers_is (A : Option Addr) (n c : Nat) (xs : List Int) (A' : Option Addr) (n' c' : Nat) (ys : List Int) (r : Bool) (w : World) (hx : Sl w 1 IntC A n c xs) (hy : Sl w 1 IntC A' n' c' ys) (h : coversB xs ys = r) :
    Calls Try.prog 21 #[.slice A n c, .slice A' n' c'] w fun e w' => e = .returned (.bool r) ∧ w = w' := by
  subst h; exact covers_any A n c xs A' n' c' ys w hx hy

set_option maxHeartbeats 8000000 in
theorem lattice_few (p q r s : Bool) (A1 : Option Addr) (n1 c1 : Nat) (xs : List Int) (A2 : Option Addr) (n2 c2 : Nat) (ys : List Int) (A3 : Option Addr) (n3 c3 : Nat) (zs : List Int) (w : World) (hx : Sl w 1 IntC A1 n1 c1 xs) (hy : Sl w 1 IntC A2 n2 c2 ys) (hz : Sl w 1 IntC A3 n3 c3 zs)
    (hp : coversB zs xs = p) (hq : coversB zs ys = q) (hr : coversB xs zs = r) (hs : coversB ys zs = s) (hpq : coversB zs (joinL [xs, ys]) = (p && q)) (hrs : coversB (meetL [xs, ys]) zs = (r && s)) (hf : fewB [xs, ys, zs] = true) (hm : longL [xs, ys] ≤ 1000000) (hm' : longL [ys, xs] ≤ 1000000) :
    Calls Try.prog 7 #[.slice A1 n1 c1, .slice A2 n2 c2, .slice A3 n3 c3] w fun e w' => e = .returned (.bool true) ∧ Below w.heap.size w w' := by
  have hbw : Below w.heap.size w (w.alloc (.cells #[.slice A1 n1 c1, .slice A2 n2 c2, .slice A3 n3 c3] 34)) := (Below.refl _ _).alloc (Nat.le_refl _) _
  have j1 := cov_j xs ys
  have j2 := cov_j' xs ys
  have m1 := cov_m xs ys
  have m2 := cov_m' xs ys
  have HP := Lib.hid hp
  have HQ := Lib.hid hq
  have HR := Lib.hid hr
  have HS := Lib.hid hs
  have HPQ := Lib.hid hpq
  have HRS := Lib.hid hrs
  have HJ1 := Lib.hid j1
  have HJ2 := Lib.hid j2
  have HM1 := Lib.hid m1
  have HM2 := Lib.hid m2
  clear hp hq hr hs hpq hrs j1 j2 m1 m2
  cases p <;> cases q <;> cases r <;> cases s
  all_goals
    go_enter Try.func7, Try.ntmps7
    go_wp2_with fail
    refine (few_any _ _ _ [xs, ys, zs] _ (rows_blk3 (hx.below hbw) (hy.below hbw) (hz.below hbw) (Blk.new _ _ _))).mono ?_
    rintro e w' ⟨rfl, rfl⟩
    rw [hf]
    have hb0 := hbw.alloc (o := .cells #[.slice A1 n1 c1, .slice A2 n2 c2] 34) (by simp)
    go_wp2_with fail
    refine (join_any _ 2 2 [xs, ys] _ (rows_blk2 (hx.below hb0) (hy.below hb0) (Blk.new_ (by simp))) hm).mono ?_
    rintro e w1 ⟨a1, l1, k1, rfl, hj, hb1⟩
    have hB1 := hb0.trans (hb1.mono (by simp; omega))
    have hb2 := hB1.alloc (o := .cells #[.slice A1 n1 c1, .slice A2 n2 c2] 34) hB1.size
    go_wp2_with fail
    refine (meet_any _ 2 2 [xs, ys] _ (rows_blk2 (hx.below hb2) (hy.below hb2) (Blk.new_ rfl)) hm).mono ?_
    rintro e w2 ⟨a2, l2, k2, rfl, hme, hb3⟩
    have hB2 := hb2.trans (hb3.mono (by have := hB1.size; simp; omega))
    have hx2 := hx.below hB2
    have hy2 := hy.below hB2
    have hz2 := hz.below hB2
    have hj2 := (hj.below ((Below.refl _ _).alloc (Nat.le_refl _) _)).below hb3
    clear hb0 hb1 hB1 hb2 hb3 hj
    repeat
      go_wp2_with fail
      first
        | (with_reducible refine (covers_is _ _ _ _ _ _ _ _ _ _ hj2 hx2 HJ1.out).mono ?_)
        | (with_reducible refine (covers_is _ _ _ _ _ _ _ _ _ _ hj2 hy2 HJ2.out).mono ?_)
        | (with_reducible refine (covers_is _ _ _ _ _ _ _ _ _ _ hx2 hme HM1.out).mono ?_)
        | (with_reducible refine (covers_is _ _ _ _ _ _ _ _ _ _ hy2 hme HM2.out).mono ?_)
        | (with_reducible refine (covers_is _ _ _ _ _ _ _ _ _ _ hz2 hj2 HPQ.out).mono ?_)
        | (with_reducible refine (covers_is _ _ _ _ _ _ _ _ _ _ hz2 hx2 HP.out).mono ?_)
        | (with_reducible refine (covers_is _ _ _ _ _ _ _ _ _ _ hz2 hy2 HQ.out).mono ?_)
        | (with_reducible refine (covers_is _ _ _ _ _ _ _ _ _ _ hme hz2 HRS.out).mono ?_)
        | (with_reducible refine (covers_is _ _ _ _ _ _ _ _ _ _ hx2 hz2 HR.out).mono ?_)
        | (with_reducible refine (covers_is _ _ _ _ _ _ _ _ _ _ hy2 hz2 HS.out).mono ?_)
      rintro e w' ⟨rfl, rfl⟩
  all_goals
    go_wp2_with fail
    have hb0 := hB2.alloc (o := .cells #[.slice A2 n2 c2, .slice A1 n1 c1] 34) hB2.size
    refine (join_any _ 2 2 [ys, xs] _ (rows_blk2 (hy.below hb0) (hx.below hb0) (Blk.new_ rfl)) hm').mono ?_
    rintro e w3 ⟨a3, l3, k3, rfl, hj3, hb3⟩
    have hB3 := hb0.trans (hb3.mono (by have := hB2.size; simp; omega))
    have hj4 := (hj2.below ((Below.refl _ _).alloc (Nat.le_refl _) _)).below hb3
    have hm4 := (hme.below ((Below.refl _ _).alloc (Nat.le_refl _) _)).below hb3
    go_wp2_with fail
    refine (same_any _ _ _ _ _ _ _ _ _ hj4 hj3).mono ?_
    rintro e w4 ⟨rfl, hb4⟩
    rw [show sameB (joinL [xs, ys]) (joinL [ys, xs]) = true from by rw [join_comm]; simp [sameB]]
    have hB4 := hB3.trans (hb4.mono hB3.size)
    have hm5 := hm4.below hb4
    have hb5 := hB4.alloc (o := .cells #[.slice A2 n2 c2, .slice A1 n1 c1] 34) hB4.size
    clear hj2 hme hx2 hy2 hz2 hj3 hj4 hm4
    go_wp2_with fail
    refine (meet_any _ 2 2 [ys, xs] _ (rows_blk2 (hy.below hb5) (hx.below hb5) (Blk.new_ rfl)) hm').mono ?_
    rintro e w5 ⟨a5, l5, k5, rfl, hj5, hb6⟩
    have hB5 := hb5.trans (hb6.mono (by have := hB4.size; simp; omega))
    have hm6 := (hm5.below ((Below.refl _ _).alloc (Nat.le_refl _) _)).below hb6
    go_wp2_with fail
    refine (same_any _ _ _ _ _ _ _ _ _ hm6 hj5).mono ?_
    rintro e w6 ⟨rfl, hb7⟩
    rw [show sameB (meetL [xs, ys]) (meetL [ys, xs]) = true from by rw [meet_comm]; simp [sameB]]
    have hB6 := hB5.trans (hb7.mono hB5.size)
    go_wp2_with fail
    refine (awake_any _).mono ?_
    rintro e w7 ⟨rfl, hb8⟩
    go_wp2_with fail
    go_ret
    exact ⟨rfl, hB6.trans (hb8.mono hB6.size)⟩

theorem long2_few {xs ys zs : List Int} (h : fewB [xs, ys, zs] = true) : longL [xs, ys] ≤ 1000000 ∧ longL [ys, xs] ≤ 1000000 := by
  have h := long_few h
  simp [longL] at h ⊢
  omega

set_option maxHeartbeats 1000000 in
theorem law_lattice (A1 : Option Addr) (n1 c1 : Nat) (xs : List Int) (A2 : Option Addr) (n2 c2 : Nat) (ys : List Int) (A3 : Option Addr) (n3 c3 : Nat) (zs : List Int) (w : World) (hx : Sl w 1 IntC A1 n1 c1 xs) (hy : Sl w 1 IntC A2 n2 c2 ys) (hz : Sl w 1 IntC A3 n3 c3 zs) :
    Calls Try.prog 7 #[.slice A1 n1 c1, .slice A2 n2 c2, .slice A3 n3 c3] w fun e w' => e = .returned (.bool true) ∧ Below w.heap.size w w' := by
  by_cases h : fewB [xs, ys, zs] = true
  · exact lattice_few _ _ _ _ A1 n1 c1 xs A2 n2 c2 ys A3 n3 c3 zs w hx hy hz rfl rfl rfl rfl (cov_cj xs ys zs) (cov_mc xs ys zs) h (long2_few h).1 (long2_few h).2
  · have h' : fewB [xs, ys, zs] = false := by simpa using h
    have hbw : Below w.heap.size w (w.alloc (.cells #[.slice A1 n1 c1, .slice A2 n2 c2, .slice A3 n3 c3] 34)) := (Below.refl _ _).alloc (Nat.le_refl _) _
    clear h
    go_enter Try.func7, Try.ntmps7
    go_wp2_with fail
    refine (few_any _ _ _ [xs, ys, zs] _ (rows_blk3 (hx.below hbw) (hy.below hbw) (hz.below hbw) (Blk.new _ _ _))).mono ?_
    rintro e w' ⟨rfl, rfl⟩
    rw [h']
    clear h'
    go_wp2_with fail
    refine (awake_any _).mono ?_
    rintro e w4 ⟨rfl, hb4⟩
    go_wp2_with fail
    go_ret
    exact ⟨rfl, hbw.trans (hb4.mono (by simp))⟩
end Go.Proofs.Ytdoghihjanlgpaa
