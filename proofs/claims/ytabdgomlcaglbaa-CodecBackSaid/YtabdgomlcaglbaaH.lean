/- The walks of the laws on one reader. -/
import Derived.Test.YtabdgomlcaglbaaF
import Derived.Test.YtabdgomlcaglbaaG
import Derived.Test.YtabdgomlcaglbaaAfter
import Derived.Test.YtabdgomlcaglbaaOpens
namespace Go.Proofs.Ytabdgomlcaglbaa
open Go.RowKit
attribute [local go_sem] bs_size bs_getElem bs_list bs_append

theorem Sl.bool_at {w : World} {A : Option Addr} {n c k : Nat} {xs : List Bool} (h : Sl w 1 Opens.BoolC A n c xs) (hk : k < n) :
    ∃ b off y, A = some ⟨b, off, none⟩ ∧ b < w.heap.size ∧ w.cell? ⟨b, off + k, none⟩ = some (.bool y) := by
  obtain ⟨b, off, cs, e, hlt, hl, rfl, hc⟩ := h.4 k (by rw [h.len]; exact hk)
  exact ⟨b, off, _, e, hlt, by simpa using hc 0 _ rfl⟩

theorem rEnd_is (g : Nat) (s : List UInt8) (e r : Int) (w : World) (h : rendS s e = r) (hR : Rr w g s e) :
    Calls Try.prog 21 #[.pointer (some ⟨g, 0, none⟩)] w fun e' w' => e' = .returned (.int .i64 r) ∧ w = w' := by
  subst h; exact rEnd_any g s e w hR
set_option maxHeartbeats 1000000 in
theorem law_reads (d : List UInt8) (A : Option Addr) (n c : Nat) (xs : List Bool) (w : World) (hd : d.length ≤ 9223372036854775807) (hx : Sl w 1 Opens.BoolC A n c xs) :
    Calls Try.prog 5 #[.string (bs d), .slice A n c] w fun e' w' => e' = .returned (.bool true) ∧ Below w.heap.size w w' := by
  have hcap := And.intro hx.le hx.max
  by_cases h : 100000 < d.length
  · go_enter Try.func5, Try.ntmps5
    go_wp2_with fail
    refine (awake_any _).mono ?_
    rintro e w3 ⟨rfl, hb3⟩
    go_wp2_with fail
    go_ret
    exact ⟨rfl, hb3⟩
  go_enter Try.func5, Try.ntmps5
  go_wp2_with fail
  refine (Read_any d _).mono ?_
  rintro e w1 ⟨rfl, hA1, hb1⟩
  have hl1 := hA1.lt
  have hA2 := hA1.below ((Below.refl _ _).alloc (o := .cells #[.string (bs d), .int .i64 0] 33) (Nat.le_refl _))
  have hX2 : Rr (w1.alloc (.cells #[.string (bs d), .int .i64 0] 33)) w1.heap.size d 0 := Blk.new _ _ _
  have hb2 := hb1.alloc (o := .cells #[.string (bs d), .int .i64 0] 33) hb1.size
  generalize hga : w.heap.size = ga at *
  have HG := Lib.hid hga
  clear hga
  clear hA1 hb1
  go_wp2_with fail
  go_loopw [7] (fun i wr => ∃ (k a : Nat) (e : Int) (s : List UInt8), k ≤ n ∧ i = .int .i64 k ∧ a ≤ d.length ∧ (e = 0 → s = d.drop a) ∧ s.length ≤ d.length ∧ Rd wr ga d a e ∧ Rr wr w1.heap.size s e ∧ Below ga w wr) (fun i _ => n - (intOf i).toNat)
  case atStart => exact ⟨0, 0, 0, d, Nat.zero_le _, rfl, Nat.zero_le _, fun _ => by simp, Nat.le_refl _, hA2, hX2, hb2⟩
  case round =>
    obtain ⟨k, a, e, s, hk, rfl, ha, hrel, hsl, hA, hX, hb⟩ := hrel
    clear hA2 hX2 hb2
    have HREL := Lib.hid hrel
    clear hrel
    have hgw : ga ≤ wr.heap.size := by have := hA.lt; omega
    have hex : k < n ∧ k < 100 ∨ ¬ (k < n ∧ k < 100) := Classical.em _
    rcases hex with ⟨hlt, h100⟩ | hno
    · obtain ⟨b, off, y, rfl, hbl, hc⟩ := (Sl.bool_at (hx.below (by rw [HG.out]; exact hb)) hlt)
      cases y
      · go_wp2_with fail
        refine (Num_any _ d a e _ hA ha hd).mono ?_
        rintro e1 w2 ⟨rfl, hA2, hg2⟩
        have hX2 := hX.far hg2 (by omega)
        have hb2 := below_gb hb hg2 (Nat.le_refl _) hgw
        go_wp2_with fail
        refine (rNum_any _ s e _ hX2 (by omega)).mono ?_
        rintro e1 w3 ⟨rfl, hX3, hg3⟩
        have hA3 := hA2.far hg3 (by omega)
        have hb3 := below_gb hb2 hg3 (by omega) (by have := hA2.lt; omega)
        have hrl := num_rel HREL.out
        rw [hrl.2.1]
        rw [hrl.1] at hX3
        have HRL := Lib.hid hrl
        have ha3 : (numS d a e).1 ≤ d.length := numS_le ha
        have hs3 : (rnumS s e).1.length ≤ d.length := Nat.le_trans hrl.2.2.2 hsl
        clear hrl hA2 hX2 hg2 hg3 hA hX hb2
        generalize (numS d a e).1 = a' at *
        generalize hee : (numS d a e).2.1 = e' at *
        generalize (rnumS s e).1 = s' at *
        have hrel' : e' = 0 → s' = d.drop a' := HRL.out.2.2.1
        have HREL' := Lib.hid hrel'
        clear hrel' hee HRL
        have hend := end_rel HREL'.out ha3
        have HEND := Lib.hid hend
        clear hend
        go_wp2_with fail
        obtain ⟨x0, x1, _, _⟩ := hX3.cells
        have kx0 := fun x : After w3 => x.cell x0
        have kx1 := fun x : After w3 => x.cell x1
        have kA := fun x : After w3 => hA3.below x.below
        have kX := fun x : After w3 => hX3.below x.below
        refine wp_region_after (by kernel_rfl) (by kernel_rfl) ?_
        repeat (go_big_quiet_step (first
          | (go_at_call 19; exact after_same (Err_any _ d a' e' _ (kA _)))
          | (go_at_call 20; exact after_call (End_any _ d a' e' _ (kA _) ha3 hd))
          | (go_at_call 21; exact after_same (rEnd_is _ s' e' _ _ HEND.out (kX _)))))
        refine wpQuiet_nil ?_
        rintro _ ⟨x, rfl⟩
        have hA4 := kA x
        have hX4 := kX x
        have hb4 := hb3.trans (x.below.mono (by have := hA3.lt; omega))
        clear kx0 kx1 kA kX
        generalize x.wd = wx at *
        go_wp2_with fail
        go_roundw
        case rel => exact ⟨k + 1, a', e', s', by omega, by go_num, ha3, HREL'.out, hs3, hA4, hX4, hb4⟩
        case measure => simp [intOf]; omega
      · go_wp2_with fail
        refine (Text_any _ d a e _ hA ha hd).mono ?_
        rintro e1 w2 ⟨rfl, hA2, hg2⟩
        have hX2 := hX.far hg2 (by omega)
        have hb2 := below_gb hb hg2 (Nat.le_refl _) hgw
        go_wp2_with fail
        refine (rText_any _ s e _ hX2 (by omega)).mono ?_
        rintro e1 w3 ⟨rfl, hX3, hg3⟩
        have hA3 := hA2.far hg3 (by omega)
        have hb3 := below_gb hb2 hg3 (by omega) (by have := hA2.lt; omega)
        have hrl := text_rel HREL.out ha
        rw [hrl.2.1]
        rw [hrl.1] at hX3
        have HRL := Lib.hid hrl
        have ha3 : (textS d a e).1 ≤ d.length := hrl.2.2.2.2
        have hs3 : (rtextS s e).1.length ≤ d.length := Nat.le_trans hrl.2.2.2.1 hsl
        clear hrl hA2 hX2 hg2 hg3 hA hX hb2
        generalize (textS d a e).1 = a' at *
        generalize hee : (textS d a e).2.1 = e' at *
        generalize (rtextS s e).1 = s' at *
        have hrel' : e' = 0 → s' = d.drop a' := HRL.out.2.2.1
        have HREL' := Lib.hid hrel'
        clear hrel' hee HRL
        have hend := end_rel HREL'.out ha3
        have HEND := Lib.hid hend
        clear hend
        go_wp2_with fail
        obtain ⟨x0, x1, _, _⟩ := hX3.cells
        have kx0 := fun x : After w3 => x.cell x0
        have kx1 := fun x : After w3 => x.cell x1
        have kA := fun x : After w3 => hA3.below x.below
        have kX := fun x : After w3 => hX3.below x.below
        refine wp_region_after (by kernel_rfl) (by kernel_rfl) ?_
        repeat (go_big_quiet_step (first
          | (go_at_call 19; exact after_same (Err_any _ d a' e' _ (kA _)))
          | (go_at_call 20; exact after_call (End_any _ d a' e' _ (kA _) ha3 hd))
          | (go_at_call 21; exact after_same (rEnd_is _ s' e' _ _ HEND.out (kX _)))))
        refine wpQuiet_nil ?_
        rintro _ ⟨x, rfl⟩
        have hA4 := kA x
        have hX4 := kX x
        have hb4 := hb3.trans (x.below.mono (by have := hA3.lt; omega))
        clear kx0 kx1 kA kX
        generalize x.wd = wx at *
        go_wp2_with fail
        go_roundw
        case rel => exact ⟨k + 1, a', e', s', by omega, by go_num, ha3, HREL'.out, hs3, hA4, hX4, hb4⟩
        case measure => simp [intOf]; omega
    · by_cases hlt : k < n
      · have h100 : ¬ k < 100 := fun h => hno ⟨hlt, h⟩
        go_wp2_with fail
        refine (awake_any _).mono ?_
        rintro e1 w3 ⟨rfl, hb3⟩
        go_wp2_with fail
        go_ret
        exact ⟨rfl, by rw [HG.out]; exact hb.trans (hb3.mono hgw)⟩
      · go_wp2_with fail
        refine (awake_any _).mono ?_
        rintro e1 w3 ⟨rfl, hb3⟩
        go_wp2_with fail
        go_ret
        exact ⟨rfl, by rw [HG.out]; exact hb.trans (hb3.mono hgw)⟩

set_option maxHeartbeats 1000000 in
theorem law_one (d : List UInt8) (w : World) (hd : d.length ≤ 9223372036854775807) :
    Calls Try.prog 7 #[.string (bs d)] w fun e' w' => e' = .returned (.bool true) ∧ Below w.heap.size w w' := by
  have hnum : ∀ (g : Nat) (w1 : World), Rd w1 g d 0 0 → Calls Try.prog 17 #[.pointer (some ⟨g, 0, none⟩)] w1 fun e' w' => e' = .returned (.int .i64 (toI (numR d 0).2.2)) ∧ Rd w' g d (numR d 0).1 (numR d 0).2.1 ∧ w1.grownBy w' (some g) :=
    fun g w1 h => Num_any g d 0 0 w1 h (Nat.zero_le _) hd
  have hle := numR_le d 0 (Nat.zero_le _)
  have hlt := numR_lt d 0
  rcases numR_err d 0 with he | ⟨he, hz⟩
  · obtain ⟨htk, hln, _⟩ := num_is d he
    rw [he] at hnum
    generalize numR d 0 = r at *
    obtain ⟨a, e1, u⟩ := r
    simp only [] at *
    have hul : numL (toI u) = numU u := by unfold numL; rw [u64_toI hlt]
    have hex : (bs d).extract 0 a = bs (numU u) := by rw [bs_extract, List.drop_zero, Nat.sub_zero, htk]
    have hI : -9223372036854775808 ≤ toI u ∧ toI u ≤ 9223372036854775807 := by unfold toI; omega
    have hcase : (a < d.length ∧ (numU u == d) = false) ∨ (a = d.length ∧ (numU u == d) = true) := by
      by_cases h : a < d.length
      · left
        refine ⟨h, ?_⟩
        rw [beq_eq_false_iff_ne]
        intro e
        rw [e] at hln
        omega
      · right
        have h' : a = d.length := by omega
        refine ⟨h', ?_⟩
        rw [beq_iff_eq, ← htk, h', List.take_of_length_le (Nat.le_refl _)]
    have hl9 := numU_len u
    have hlu : (numU u).length ≤ d.length := by omega
    have HN := Lib.hid hnum
    have HU := Lib.hid hul
    have HX := Lib.hid hex
    clear hnum hul hex htk he
    clear e1
    generalize toI u = n at *
    have hrest : ∀ (hend : Int) (hb : Bool), endS d a 0 = hend → (numU u == d) = hb → (hend == 0) = hb → Calls Try.prog 7 #[.string (bs d)] w fun e' w' => e' = .returned (.bool true) ∧ Below w.heap.size w w' := by
      intro hend hb h1 h2 h3
      have HE := Lib.hid h1
      clear h1
      go_enter Try.func7, Try.ntmps7
      go_wp2_with fail
      refine (Read_any d _).mono ?_
      rintro e w1 ⟨rfl, hA1, hb1⟩
      have hgl := hA1.lt
      go_wp2_with fail
      refine (HN.out _ _ hA1).mono ?_
      rintro e w2 ⟨rfl, hA2, hg2⟩
      have hb2 := below_gb hb1 hg2 (Nat.le_refl _) hb1.size
      go_wp2_with fail
      refine (Err_any _ _ _ _ _ hA2).mono ?_
      rintro e w' ⟨rfl, rfl⟩
      go_wp2_with fail
      refine (num_c n _ hI).mono ?_
      rintro e w3 ⟨rfl, hb3⟩
      rw [HU.out]
      have hA3 := hA2.below hb3
      have hb3' := hb2.trans (hb3.mono hb2.size)
      have hx := HX.out
      go_wp2_with fail
      refine (End_any _ _ _ _ _ hA3 hle hd).mono ?_
      rintro e w4 ⟨rfl, hb4⟩
      rw [HE.out]
      have hb4' := hb3'.trans (hb4.mono hb3'.size)
      go_wp2_with fail
      refine (awake_any _).mono ?_
      rintro e w5 ⟨rfl, hb5⟩
      go_wp2_with fail
      go_ret
      exact ⟨rfl, hb4'.trans (hb5.mono hb4'.size)⟩
    rcases hcase with ⟨h1, h2⟩ | ⟨h1, h2⟩
    · exact hrest 12 false (by unfold endS; rw [if_pos rfl, if_pos h1]) h2 rfl
    · exact hrest 0 true (by unfold endS; rw [if_pos rfl, if_neg (by omega)]) h2 rfl
  · have hne : (numR d 0).2.1 ≠ 0 := by rcases he with h | h <;> rw [h] <;> decide
    rw [hz, toI_zero] at hnum
    generalize numR d 0 = r at *
    obtain ⟨a, e1, u⟩ := r
    simp only [] at *
    have HN := Lib.hid hnum
    clear hnum hz he hlt
    have hn2 : (e1 != 0) = true := by simp [hne]
    have hs : numS d a e1 = (a, e1, 0) := by unfold numS; rw [if_neg hne]
    have ht : textS d a e1 = (a, e1, []) := by unfold textS; rw [if_neg hne]
    have hNum : ∀ (g : Nat) (w1 : World), Rd w1 g d a e1 → Calls Try.prog 17 #[.pointer (some ⟨g, 0, none⟩)] w1 fun e' w' => e' = .returned (.int .i64 0) ∧ Rd w' g d a e1 ∧ w1.grownBy w' (some g) := fun g w1 h => by
      have := Num_any g d a e1 w1 h hle hd
      rw [hs] at this
      simpa only [toI_zero] using this
    have hText : ∀ (g : Nat) (w1 : World), Rd w1 g d a e1 → Calls Try.prog 15 #[.pointer (some ⟨g, 0, none⟩)] w1 fun e' w' => e' = .returned (.string (bs [])) ∧ Rd w' g d a e1 ∧ w1.grownBy w' (some g) := fun g w1 h => by
      have := Text_any g d a e1 w1 h hle hd
      rw [ht] at this
      exact this
    have HNum := Lib.hid hNum
    have HText := Lib.hid hText
    clear hNum hText hs ht hne
    go_enter Try.func7, Try.ntmps7
    go_wp2_with fail
    refine (Read_any d _).mono ?_
    rintro e w1 ⟨rfl, hA1, hb1⟩
    have hgl := hA1.lt
    go_wp2_with fail
    refine (HN.out _ _ hA1).mono ?_
    rintro e w2 ⟨rfl, hA2, hg2⟩
    have hb2 := below_gb hb1 hg2 (Nat.le_refl _) hb1.size
    go_wp2_with fail
    refine (Err_any _ _ _ _ _ hA2).mono ?_
    rintro e w' ⟨rfl, rfl⟩
    go_wp2_with fail
    refine (HNum.out _ _ hA2).mono ?_
    rintro e w3 ⟨rfl, hA3, hg3⟩
    have hb3 := below_gb hb2 hg3 (Nat.le_refl _) hb2.size
    go_wp2_with fail
    refine (HText.out _ _ hA3).mono ?_
    rintro e w4 ⟨rfl, hA4, hg4⟩
    have hb4 := below_gb hb3 hg4 (Nat.le_refl _) hb3.size
    go_wp2_with fail
    refine (awake_any _).mono ?_
    rintro e w5 ⟨rfl, hb5⟩
    go_wp2_with fail
    go_ret
    exact ⟨rfl, hb4.trans (hb5.mono hb4.size)⟩
end Go.Proofs.Ytabdgomlcaglbaa
