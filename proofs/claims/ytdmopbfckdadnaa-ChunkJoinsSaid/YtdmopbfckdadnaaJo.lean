/- Join of both; the law of ChunkJoins. -/
import Derived.Test.YtdmopbfckdadnaaMa
namespace Go.Proofs.Ytdmopbfckdadnaa
open Go.RowKit
attribute [local go_sem] bs_size bs_getElem bs_list bs_append

def okJ (n : Int) (s k : List UInt8) (i : Nat) : Prop := (s.length : Int) = min (n - 256 * i) 256 ∧ keyL s = k
def okJs (n : Int) (l ks : List (List UInt8)) (k : Nat) : Prop := ∀ i (h : i < l.length) (h' : i < ks.length), i < k → okJ n l[i] ks[i] i
open Classical in
noncomputable def joinJ (K : List (List UInt8) × Int × Int) (l : List (List UInt8)) : List UInt8 × Int :=
  if K.2.2 ≠ 0 then ([], K.2.2) else if l.length ≠ K.1.length then ([], 13) else if okJs K.2.1 l K.1 l.length then (l.flatten, 0) else ([], 13)
theorem joinJ_err {ks : List (List UInt8)} {n e : Int} {l : List (List UInt8)} (h : e ≠ 0) : joinJ (ks, n, e) l = ([], e) := by unfold joinJ; rw [if_pos h]
theorem joinJ_len {ks : List (List UInt8)} {n : Int} {l : List (List UInt8)} (h : l.length ≠ ks.length) : joinJ (ks, n, 0) l = ([], 13) := by unfold joinJ; rw [if_neg (by simp), if_pos h]
theorem joinJ_ok {ks : List (List UInt8)} {n : Int} {l : List (List UInt8)} (h : l.length = ks.length) (hk : okJs n l ks l.length) : joinJ (ks, n, 0) l = (l.flatten, 0) := by unfold joinJ; rw [if_neg (by simp), if_neg (by simpa using h), if_pos hk]
theorem joinJ_bad {ks : List (List UInt8)} {n : Int} {l : List (List UInt8)} (h : l.length = ks.length) {i : Nat} (hi : i < l.length) (hi' : i < ks.length) (hk : ¬ okJ n l[i] ks[i] i) : joinJ (ks, n, 0) l = ([], 13) := by
  unfold joinJ; rw [if_neg (by simp), if_neg (by simpa using h), if_neg (fun hh => hk (hh i hi hi' hi))]
theorem okJs_succ {n : Int} {l ks : List (List UInt8)} {k : Nat} (h : okJs n l ks k) (hl : k < l.length) (hk : k < ks.length) (ho : okJ n l[k] ks[k] k) : okJs n l ks (k + 1) := fun i hi hi' hlt => by
  rcases Nat.lt_or_ge i k with h1 | h1
  · exact h i hi hi' h1
  · obtain rfl : i = k := by omega
    exact ho
theorem flat_succ {l : List (List UInt8)} {k : Nat} (hl : k < l.length) : (l.take (k + 1)).flatten = (l.take k).flatten ++ l[k] := by
  rw [List.take_succ_eq_append_getElem hl, List.flatten_append]; simp
theorem flat_len {n : Int} {l ks : List (List UInt8)} (h : l.length = ks.length) : ∀ {k : Nat}, k ≤ l.length → okJs n l ks k → ((l.take k).flatten).length ≤ 256 * k
  | 0, _, _ => by simp
  | k + 1, hk, ho => by
    rw [flat_succ (by omega), List.length_append]
    have h1 := flat_len h (k := k) (by omega) (fun i a b c => ho i a b (by omega))
    have h2 := (ho k (by omega) (by omega) (by omega)).1
    omega
def JoinP (w : World) (K : List (List UInt8) × Int × Int) (l : List (List UInt8)) (e : Ending) (w' : World) : Prop := e = .returned (.tuple #[.string (bs (joinJ K l).1), .int .i64 (joinJ K l).2]) ∧ Below w.heap.size w w'
theorem JoinP.no {w w' : World} {K : List (List UInt8) × Int × Int} {l : List (List UInt8)} {e : Int} (h : joinJ K l = ([], e)) (hb : Below w.heap.size w w') : JoinP w K l (.returned (.tuple #[.string ⟨#[]⟩, .int .i64 e])) w' := by
  unfold JoinP; rw [h]; exact ⟨rfl, hb⟩
theorem JoinP.yes {w w' : World} {K : List (List UInt8) × Int × Int} {l : List (List UInt8)} {s : List UInt8} (h : joinJ K l = (s, 0)) (hb : Below w.heap.size w w') : JoinP w K l (.returned (.tuple #[.string (bs s), .int .i64 0])) w' := by
  unfold JoinP; rw [h]; exact ⟨rfl, hb⟩
/-- what is known of the keys of a manifest -/
theorem keysL_facts (m : List UInt8) : (keysL m).2.2 = 0 → ∃ N : Nat, (keysL m).2.1 = N ∧ N ≤ 4096 ∧ (keysL m).1.length = pieces N := by
  by_cases h0 : m = []
  · subst h0; exact fun _ => ⟨0, rfl, by omega, rfl⟩
  · by_cases h : (Cd.rnumR m).2.1 = 0 ∧ 1 ≤ Cd.toI (Cd.rnumR m).2.2 ∧ Cd.toI (Cd.rnumR m).2.2 ≤ 4096 ∧ (Cd.rnumR m).1.length = 32 * pieces (Cd.rnumR m).2.2
    · obtain ⟨h1, h2, h3, h4⟩ := h
      have hs := toI_small (rnumR_small m) h2 h3
      rw [keysL_ok h0 h1 h2 h3 h4]
      exact fun _ => ⟨(Cd.rnumR m).2.2, hs, by omega, cut32_len _ _⟩
    · rw [keysL_no h0 h]
      intro h; cases h
theorem after_key2 {W : World} (x : After W) {s : List UInt8} (hs : s.length ≤ 100000) {K : List UInt8} (hK : keyL s = K) : Calls Try.prog 16 #[.string (bs s)] x.wd fun e w' => e = .returned (.string (bs K)) ∧ ∃ y : After W, w' = y.wd := after_call (by rw [← hK]; exact key_c s hs x.wd)
theorem after_rkey {W : World} (x : After W) {s : List UInt8} (hs : s.length ≤ 100000) {K : List UInt8} (hK : keyL s = K) : Calls Try.prog 23 #[.string (bs s)] x.wd fun e w' => e = .returned (.string (bs K)) ∧ ∃ y : After W, w' = y.wd := after_call (by rw [← hK]; exact key_r s hs x.wd)

set_option maxRecDepth 100000 in
set_option maxHeartbeats 3200000 in
theorem rjoin_any (m : List UInt8) (hm : m.length ≤ 1000000) (A : Option Addr) (n c : Nat) (l : List (List UInt8)) (w : World) (hx : Strs w A n c l) (hs : ∀ s ∈ l, s.length ≤ 100000) :
    Calls Try.prog 18 #[.string (bs m), .slice A n c] w (JoinP w (keysL m) l) := by
  have hK := rkeys_any m hm w
  have hF := keysL_facts m
  have hsh := short_keys m
  unfold KeysP at hK
  generalize keysL m = K at *
  obtain ⟨ks, nn, ee⟩ := K
  dsimp only at hK hF hsh
  have hn := hx.len
  have hmx := hx.max
  have hle := hx.le
  have HK := Lib.hid hK
  have HX := Lib.hid hx
  have HSh := Lib.hid hsh
  have HS := Lib.hid hs
  clear hK hx hsh hs
  by_cases he : ee = 0
  case neg =>
    have hne : (ee != 0) = true := by simpa using he
    have HJ := Lib.hid (joinJ_err (ks := ks) (n := nn) (l := l) he)
    clear he hF
    go_enter Try.func18, Try.ntmps18
    go_wp2_with fail
    refine HK.out.mono ?_
    rintro e w1 ⟨v1, rfl, hO1, hb1⟩
    have HB1 := Lib.hid hb1
    clear hO1 hb1
    go_wp2_with fail
    go_ret2
    exact JoinP.no HJ.out HB1.out
  subst he
  obtain ⟨N, rfl, hN, hkl⟩ := hF rfl
  clear hF
  by_cases hlen : n = ks.length
  case neg =>
    have hne : ((n : Int) != (ks.length : Int)) = true := by rw [bne_iff_ne]; omega
    have HJ := Lib.hid (joinJ_len (ks := ks) (n := N) (l := l) (by omega))
    clear hkl hlen
    go_enter Try.func18, Try.ntmps18
    go_wp2_with fail
    refine HK.out.mono ?_
    rintro e w1 ⟨v1, rfl, hO1, hb1⟩
    obtain ⟨A1, c1, rfl, hS1⟩ := OwnT.strs hO1 HSh.out
    have HB1 := Lib.hid hb1
    have hmx1 := hS1.max
    have hle1 := hS1.le
    clear hO1 hb1 hS1
    go_wp2_with fail
    go_ret2
    exact JoinP.no HJ.out HB1.out
  have hne : ((n : Int) != (ks.length : Int)) = false := by rw [bne_eq_false_iff_eq]; omega
  have HLen := Lib.hid hlen
  have HKl := Lib.hid hkl
  have HN := Lib.hid hn
  have hnn : n ≤ 17 := by rw [hlen, hkl]; unfold pieces; omega
  clear hkl hlen
  go_enter Try.func18, Try.ntmps18
  go_wp2_with fail
  refine HK.out.mono ?_
  rintro e w1 ⟨v1, rfl, hO1, hb1⟩
  obtain ⟨A1, c1, rfl, hS1⟩ := OwnT.strs hO1 HSh.out
  have HB1 := Lib.hid hb1
  have HS1 := Lib.hid hS1
  have HX1 := Lib.hid (HX.out.below hb1)
  have hmx1 := hS1.max
  have hle1 := hS1.le
  clear hO1 hb1 hS1
  go_upto_region 6 with (fail)
  clear hne
  go_wp2_with fail
  go_loopw [9, 10] (fun s i wr => ∃ k : Nat, k ≤ n ∧ i = .int .i64 k ∧ s = .string (bs (l.take k).flatten) ∧ okJs N l ks k ∧ Below w1.heap.size w1 wr) (fun _ i _ => n - (intOf i).toNat)
  case atStart => exact ⟨0, by omega, rfl, rfl, (fun i _ _ h => by omega), Below.refl _ _⟩
  case round =>
    obtain ⟨k, hk, rfl, rfl, ho, hb⟩ := hrel
    rcases Nat.lt_or_ge k n with hlt | hge
    · have hkl : k < l.length := by omega
      have hkk : k < ks.length := by have := HLen.out; omega
      have hln := HLen.out
      obtain ⟨b, off, rfl, hbl, c0, _⟩ := Strs.at_ (HX1.out.below hb) hkl
      obtain ⟨b2, off2, rfl, hbl2, d0, _⟩ := Strs.at_ (HS1.out.below hb) hkk
      have hfl := flat_len (n := N) (by omega : l.length = ks.length) (by omega) ho
      have hsl := HS.out l[k] (List.getElem_mem hkl)
      have HBad := Lib.hid (fun h : ¬ okJ N l[k] ks[k] k => joinJ_bad (by omega) hkl hkk h)
      have HOk := Lib.hid (fun h : okJ N l[k] ks[k] k => okJs_succ ho hkl hkk h)
      have HFl := Lib.hid (flat_succ hkl)
      have HKy := Lib.hid (fun x : After wr => after_rkey x hsl rfl)
      have HB := Lib.hid hb
      have HOJ := Lib.hid ho
      clear ho hb
      generalize l[k] = s at *
      generalize ks[k] = ky at *
      generalize (l.take k).flatten = acc at *
      have hki : (k : Int) < (n : Int) := by omega
      have hfl2 : acc.length ≤ 5000 := by omega
      have hkk2 : (k : Int) < (ks.length : Int) := by omega
      have l0 := fun x : After wr => x.cell c0
      have l1 := fun x : After wr => x.cell d0
      obtain ⟨mn, hmn⟩ : ∃ mn : Int, mn = min ((N : Int) - 256 * k) 256 := ⟨_, rfl⟩
      have hmn2 : min ((N : Int) - 256 * (k : Int)) 256 = mn := hmn.symm
      by_cases h1 : (s.length : Int) = mn
      case neg =>
        have hq : (((s.length : Nat) : Int) != mn) = true := by simpa using h1
        have HJ := Lib.hid (HBad.out (fun h => h1 (h.1.trans hmn.symm)))
        clear h1 hmn hkl hkk hln hsl
        go_upto_region 10 with (fail)
        refine wp_region_after (by kernel_rfl) (by kernel_rfl) ?_
        repeat (go_big_quiet_step (fail))
        refine wpQuiet_nil ?_
        clear l0 l1
        rintro _ ⟨x2, rfl⟩
        have HBx := Lib.hid (HB1.out.trans ((HB.out.trans (x2.below.mono HB.out.size)).mono HB1.out.size))
        go_wp2_with fail
        go_ret2
        exact JoinP.no HJ.out HBx.out
      have hq : (((s.length : Nat) : Int) != mn) = false := by simpa using h1
      have HLn := Lib.hid (h1.trans hmn)
      by_cases h2 : keyL s = ky
      case neg =>
        have HJ := Lib.hid (HBad.out (fun h => h2 h.2))
        have q1 : (keyL s == ky) = false := by simpa using h2
        generalize keyL s = ks2 at *
        clear h1 hmn hkl hkk hln hsl
        go_upto_region 10 with (fail)
        refine wp_region_after (by kernel_rfl) (by kernel_rfl) ?_
        repeat (go_big_quiet_step ((go_at_call 23; exact HKy.out _)))
        refine wpQuiet_nil ?_
        clear l0 l1
        rintro _ ⟨x2, rfl⟩
        have HBx := Lib.hid (HB1.out.trans ((HB.out.trans (x2.below.mono HB.out.size)).mono HB1.out.size))
        go_wp2_with fail
        go_ret2
        exact JoinP.no HJ.out HBx.out
      have HJ := Lib.hid (HOk.out ⟨HLn.out, h2⟩)
      rw [h2] at HKy
      clear h1 hmn hkl hkk hln h2
      go_upto_region 10 with (fail)
      refine wp_region_after (by kernel_rfl) (by kernel_rfl) ?_
      repeat (go_big_quiet_step ((go_at_call 23; exact HKy.out _)))
      refine wpQuiet_nil ?_
      clear l0 l1
      rintro _ ⟨x2, rfl⟩
      have HBx := Lib.hid (HB.out.trans (x2.below.mono HB.out.size))
      have c0 := x2.cell c0
      generalize x2.wd = w5 at *
      clear x2
      go_wp2_with fail
      exact ⟨⟨k + 1, by omega, by go_num, by rw [HFl.out], HJ.out, HBx.out⟩, by simp [intOf]; omega⟩
    · obtain rfl : k = n := by omega
      have hkn : ¬ (k : Int) < (k : Int) := by omega
      have hfin : (l.take k).flatten = l.flatten := by rw [List.take_of_length_le (by omega)]
      rw [hfin]
      have HJ := Lib.hid (joinJ_ok (ks := ks) (n := N) (l := l) (by have := HLen.out; omega) (by rw [HN.out]; exact ho))
      have HB := Lib.hid (HB1.out.trans (hb.mono HB1.out.size))
      clear hb ho hfin
      go_wp2_with fail
      go_ret2
      exact JoinP.yes HJ.out HB.out

set_option maxRecDepth 100000 in
set_option maxHeartbeats 3200000 in
theorem join_any (m : List UInt8) (hm : m.length ≤ 1000000) (A : Option Addr) (n c : Nat) (l : List (List UInt8)) (w : World) (hx : Strs w A n c l) (hs : ∀ s ∈ l, s.length ≤ 100000) :
    Calls Try.prog 17 #[.string (bs m), .slice A n c] w (JoinP w (keysL m) l) := by
  have hK := keys_any m hm w
  have hF := keysL_facts m
  have hsh := short_keys m
  unfold KeysP at hK
  generalize keysL m = K at *
  obtain ⟨ks, nn, ee⟩ := K
  dsimp only at hK hF hsh
  have hn := hx.len
  have hmx := hx.max
  have hle := hx.le
  have HK := Lib.hid hK
  have HX := Lib.hid hx
  have HSh := Lib.hid hsh
  have HS := Lib.hid hs
  clear hK hx hsh hs
  by_cases he : ee = 0
  case neg =>
    have hne : (ee != 0) = true := by simpa using he
    have HJ := Lib.hid (joinJ_err (ks := ks) (n := nn) (l := l) he)
    clear he hF
    go_enter Try.func17, Try.ntmps17
    go_wp2_with fail
    refine HK.out.mono ?_
    rintro e w1 ⟨v1, rfl, hO1, hb1⟩
    have HB1 := Lib.hid hb1
    clear hO1 hb1
    go_wp2_with fail
    go_ret2
    exact JoinP.no HJ.out HB1.out
  subst he
  obtain ⟨N, rfl, hN, hkl⟩ := hF rfl
  clear hF
  by_cases hlen : n = ks.length
  case neg =>
    have hne : ((n : Int) != (ks.length : Int)) = true := by rw [bne_iff_ne]; omega
    have HJ := Lib.hid (joinJ_len (ks := ks) (n := N) (l := l) (by omega))
    clear hkl hlen
    go_enter Try.func17, Try.ntmps17
    go_wp2_with fail
    refine HK.out.mono ?_
    rintro e w1 ⟨v1, rfl, hO1, hb1⟩
    obtain ⟨A1, c1, rfl, hS1⟩ := OwnT.strs hO1 HSh.out
    have HB1 := Lib.hid hb1
    have hmx1 := hS1.max
    have hle1 := hS1.le
    clear hO1 hb1 hS1
    go_wp2_with fail
    go_ret2
    exact JoinP.no HJ.out HB1.out
  have hne : ((n : Int) != (ks.length : Int)) = false := by rw [bne_eq_false_iff_eq]; omega
  have HLen := Lib.hid hlen
  have HKl := Lib.hid hkl
  have HN := Lib.hid hn
  have hnn : n ≤ 17 := by rw [hlen, hkl]; unfold pieces; omega
  clear hkl hlen
  go_enter Try.func17, Try.ntmps17
  go_wp2_with fail
  refine HK.out.mono ?_
  rintro e w1 ⟨v1, rfl, hO1, hb1⟩
  obtain ⟨A1, c1, rfl, hS1⟩ := OwnT.strs hO1 HSh.out
  have HB1 := Lib.hid hb1
  have hB0 := (Below.refl w1.heap.size w1).alloc (Nat.le_refl _) (.cells #[.pointer none, .slice none 0 0] 39)
  have HS1 := Lib.hid hS1
  have HX1 := Lib.hid (HX.out.below hb1)
  have hmx1 := hS1.max
  have hle1 := hS1.le
  have hBl := Bld.fresh w1
  obtain ⟨w0, hw0⟩ : ∃ w0, w0 = w1.alloc (.cells #[.pointer none, .slice none 0 0] 39) := ⟨_, rfl⟩
  obtain ⟨b0, hb0⟩ : ∃ b0, b0 = w1.heap.size := ⟨_, rfl⟩
  have hs0 : b0 < w0.heap.size := by rw [hw0, hb0]; simp
  rw [← hw0] at hB0 hBl
  rw [← hb0] at hBl hB0
  have HW := Lib.hid hw0
  have HQ := Lib.hid hb0
  have HB0 := Lib.hid hB0
  have HBl := Lib.hid hBl
  have hs1b : w.heap.size ≤ b0 := by rw [hb0]; exact hb1.size
  clear hO1 hb1 hS1 hB0 hBl hw0 hb0
  go_upto_region 7 with (fail)
  rw [← HW.out, ← HQ.out]
  clear hne
  go_wp2_with fail
  go_loopw [7, 30] (fun t i wr => ∃ k : Nat, k ≤ n ∧ i = .int .i64 k ∧ t = .int .i64 (max ((N : Int) - 256 * k) 0) ∧ okJs N l ks k ∧ Bld wr b0 b0 (l.take k).flatten ∧ Below b0 w1 wr ∧ b0 ≤ wr.heap.size ∧ Below w.heap.size w wr) (fun _ i _ => n - (intOf i).toNat)
  case atStart => exact ⟨0, by omega, rfl, by simp, (fun i _ _ h => by omega), HBl.out, HB0.out, by omega, HB1.out.trans (HB0.out.mono hs1b)⟩
  case round =>
    obtain ⟨k, hk, rfl, rfl, ho, hBr, hbr, hsr, hbw⟩ := hrel
    have hb : Below w1.heap.size w1 wr := by rw [← HQ.out]; exact hbr
    rcases Nat.lt_or_ge k n with hlt | hge
    · have hkl : k < l.length := by omega
      have hkk : k < ks.length := by have := HLen.out; omega
      have hln := HLen.out
      have hkP := pieces_lt.1 (show k < pieces N by rw [← HKl.out]; exact hkk)
      obtain ⟨b, off, rfl, hbl, c0, _⟩ := Strs.at_ (HX1.out.below hb) hkl
      obtain ⟨b2, off2, rfl, hbl2, d0, _⟩ := Strs.at_ (HS1.out.below hb) hkk
      have hfl := flat_len (n := N) (by omega : l.length = ks.length) (by omega) ho
      have hsl := HS.out l[k] (List.getElem_mem hkl)
      have HBad := Lib.hid (fun h : ¬ okJ N l[k] ks[k] k => joinJ_bad (by omega) hkl hkk h)
      have HOk := Lib.hid (fun h : okJ N l[k] ks[k] k => okJs_succ ho hkl hkk h)
      have HFl := Lib.hid (flat_succ hkl)
      have HKy := Lib.hid (fun x : After wr => after_key2 x hsl rfl)
      have HBr := Lib.hid hBr
      have Hbr := Lib.hid hbr
      have Hbw := Lib.hid hbw
      have hmax : max ((N : Int) - 256 * (k : Int)) 0 = (N : Int) - 256 * (k : Int) := by omega
      rw [hmax]
      have hnxt : max ((N : Int) - 256 * ((k + 1 : Nat) : Int)) 0 = ((N : Int) - 256 * (k : Int)) - min ((N : Int) - 256 * (k : Int)) 256 := by omega
      have hle1' : (1 : Int) ≤ (N : Int) - 256 * (k : Int) := by omega
      have hle2' : (N : Int) - 256 * (k : Int) ≤ 4096 := by omega
      clear ho hb hBr hbr hbw hmax
      unfold okJ at HBad HOk
      generalize l[k] = s at *
      generalize ks[k] = ky at *
      generalize (l.take k).flatten = acc at *
      have hki : (k : Int) < (n : Int) := by omega
      have hfl2 : acc.length ≤ 5000 := by omega
      have hkk2 : (k : Int) < (ks.length : Int) := by omega
      have HNxt := Lib.hid hnxt
      clear hnxt
      generalize (N : Int) - 256 * (k : Int) = lf at *
      have l0 := fun x : After wr => x.cell c0
      have l1 := fun x : After wr => x.cell d0
      obtain ⟨mn, hmn⟩ : ∃ mn : Int, mn = min lf 256 := ⟨_, rfl⟩
      have hmn2 : min lf 256 = mn := hmn.symm
      by_cases h1 : (s.length : Int) = mn
      case neg =>
        have hq : (((s.length : Nat) : Int) != mn) = true := by simpa using h1
        have HJ := Lib.hid (HBad.out (fun h => h1 (h.1.trans hmn.symm)))
        clear h1 hmn hkl hkk hln hsl hkP
        go_upto_region 10 with (fail)
        refine wp_region_after (by kernel_rfl) (by kernel_rfl) ?_
        repeat (go_big_quiet_step (fail))
        refine wpQuiet_nil ?_
        clear l0 l1
        rintro _ ⟨x2, rfl⟩
        have HBx := Lib.hid (Hbw.out.trans (x2.below.mono Hbw.out.size))
        go_wp2_with fail
        go_ret2
        exact JoinP.no HJ.out HBx.out
      have hq : (((s.length : Nat) : Int) != mn) = false := by simpa using h1
      have HLn := Lib.hid (h1.trans hmn)
      by_cases h2 : keyL s = ky
      case neg =>
        have HJ := Lib.hid (HBad.out (fun h => h2 h.2))
        have q1 : (keyL s == ky) = false := by simpa using h2
        generalize keyL s = ks2 at *
        clear h1 hmn hkl hkk hln hsl hkP
        go_upto_region 10 with (fail)
        refine wp_region_after (by kernel_rfl) (by kernel_rfl) ?_
        repeat (go_big_quiet_step ((go_at_call 16; exact HKy.out _)))
        refine wpQuiet_nil ?_
        clear l0 l1
        rintro _ ⟨x2, rfl⟩
        have HBx := Lib.hid (Hbw.out.trans (x2.below.mono Hbw.out.size))
        go_wp2_with fail
        go_ret2
        exact JoinP.no HJ.out HBx.out
      have HJ := Lib.hid (HOk.out ⟨HLn.out, h2⟩)
      rw [h2] at HKy
      have hsl2 : (s.length : Int) ≤ 256 := by omega
      clear h1 hmn hkl hkk hln h2 hkP
      go_upto_region 10 with (fail)
      refine wp_region_after (by kernel_rfl) (by kernel_rfl) ?_
      repeat (go_big_quiet_step ((go_at_call 16; exact HKy.out _)))
      refine wpQuiet_nil ?_
      clear l0 l1
      rintro _ ⟨x2, rfl⟩
      have HBx := Lib.hid (Below.trans Hbr.out (x2.below.mono hsr))
      have HBy := Lib.hid (Below.trans Hbw.out (x2.below.mono Hbw.out.size))
      have HBl5 := Lib.hid (Bld.below HBr.out x2.below)
      have hs5 : b0 ≤ x2.wd.heap.size := Nat.le_trans hsr x2.below.size
      generalize x2.wd = w5 at *
      clear x2 hmn2 hq
      go_wp2_with fail
      refine (write_any b0 b0 acc s w5 HBl5.out (by omega) hs5).mono ?_
      rintro e w6 ⟨rfl, hBl6, hb6, _⟩
      have HBl6 := Lib.hid hBl6
      have HB6 := Lib.hid (Below.trans HBx.out hb6)
      have HB6w := Lib.hid (Below.trans HBy.out (hb6.mono hs1b))
      have hs6 : b0 ≤ w6.heap.size := Nat.le_trans hs5 hb6.size
      clear hBl6 hb6
      go_wp2_with fail
      exact ⟨⟨k + 1, by omega, by go_num, by rw [HNxt.out, HLn.out], HJ.out, by rw [HFl.out]; exact HBl6.out, HB6.out, hs6, HB6w.out⟩, by simp [intOf]; omega⟩
    · obtain rfl : k = n := by omega
      have hkn : ¬ (k : Int) < (k : Int) := by omega
      have hfin : (l.take k).flatten = l.flatten := by rw [List.take_of_length_le (by omega)]
      rw [hfin] at hBr
      have HJ := Lib.hid (joinJ_ok (ks := ks) (n := N) (l := l) (by have := HLen.out; omega) (by rw [HN.out]; exact ho))
      have HBr := Lib.hid hBr
      have Hbw := Lib.hid hbw
      clear hb ho hfin hBr hbr hbw
      go_wp2_with fail
      refine (string_any b0 b0 l.flatten wr HBr.out hsr).mono ?_
      rintro e w4 ⟨rfl, hb4⟩
      have HB4 := Lib.hid (Hbw.out.trans (hb4.mono hs1b))
      clear hb4
      go_wp2_with fail
      go_ret2
      exact JoinP.yes HJ.out HB4.out
end Go.Proofs.Ytdmopbfckdadnaa
