/- The document's Keys. -/
import Derived.Test.YtdmopbfckdadnaaKw
namespace Go.Proofs.Ytdmopbfckdadnaa
open Go.RowKit
attribute [local go_sem] bs_size bs_getElem bs_list bs_append

set_option maxRecDepth 100000 in
set_option maxHeartbeats 1600000 in
theorem rkeys_any (m : List UInt8) (hm : m.length ≤ 1000000) (w : World) : Calls Try.prog 15 #[.string (bs m)] w (KeysP w m) := by
  obtain ⟨i0, hi0, hz0, hz1, hz2⟩ := info_parts info9
  by_cases h0 : m = []
  · subst h0
    go_enter Try.func15, Try.ntmps15
    go_wp2_with fail
    go_ret3
    exact KeysP.nil_ (Below.refl _ _)
  have hem : m.isEmpty = false := by cases m <;> simp_all
  have hlt := Cd.rnumR_lt m
  have hlen := Cd.rnumR_len m
  have hnum := fun (w1 : World) (hR : Cd.Rr w1 w.heap.size m 0) => Cd.rNum_any w.heap.size m 0 w1 hR (by omega)
  have hS : Cd.rnumS m 0 = Cd.rnumR m := by unfold Cd.rnumS; rw [if_pos rfl]
  rw [hS] at hnum
  have HRd : RowKit.Hid (Cd.Rr (w.alloc (.cells #[.string (bs m), .int .i64 0] 55)) w.heap.size m 0) := Lib.hid (Blk.new _ _ _)
  have HB0 := Lib.hid ((Below.refl w.heap.size w).alloc (Nat.le_refl _) (.cells #[.string (bs m), .int .i64 0] 55))
  generalize hR1 : Cd.rnumR m = R at *
  obtain ⟨r, e2, u2⟩ := R
  dsimp only at hlt hlen hnum
  have HNum := Lib.hid hnum
  have HR1 := Lib.hid hR1
  have HI := Lib.hid hi0
  have HZ0 := Lib.hid hz0
  have HZ1 := Lib.hid hz1
  have HZ2 := Lib.hid hz2
  have H0 := Lib.hid h0
  clear hR1 hS h0 hi0 hz0 hz1 hz2 hnum
  by_cases he : e2 = 0
  · subst he
    by_cases h1 : Cd.toI u2 < 1
    · have HK : RowKit.Hid (keysL m = ([], 0, 11)) := Lib.hid (keysL_no H0.out (by rw [HR1.out]; exact fun h => absurd h.2.1 (by show ¬ 1 ≤ Cd.toI u2; omega)))
      generalize Cd.toI u2 = t at *
      have hd : decide (t < 1) = true := decide_eq_true h1
      clear h1 hlt
      go_enter Try.func15, Try.ntmps15
      go_wp2_with fail
      refine (HNum.out _ HRd.out).mono ?_
      rintro e w2 ⟨rfl, hR2, hg2⟩
      have HB2 := Lib.hid (below_gb HB0.out hg2 (Nat.le_refl _) HB0.out.size)
      obtain ⟨c0, c1, f0, f1⟩ := hR2.cells
      clear hR2 hg2
      go_wp2_with fail
      go_ret3
      exact KeysP.no HK.out HB2.out
    by_cases h2 : 4096 < Cd.toI u2
    · have HK : RowKit.Hid (keysL m = ([], 0, 11)) := Lib.hid (keysL_no H0.out (by rw [HR1.out]; exact fun h => absurd h.2.2.1 (by show ¬ Cd.toI u2 ≤ 4096; omega)))
      generalize Cd.toI u2 = t at *
      have hd : decide (t < 1) = false := decide_eq_false h1
      have hd2 : decide (t > 4096) = true := decide_eq_true h2
      clear h1 h2 hlt
      go_enter Try.func15, Try.ntmps15
      go_wp2_with fail
      refine (HNum.out _ HRd.out).mono ?_
      rintro e w2 ⟨rfl, hR2, hg2⟩
      have HB2 := Lib.hid (below_gb HB0.out hg2 (Nat.le_refl _) HB0.out.size)
      obtain ⟨c0, c1, f0, f1⟩ := hR2.cells
      clear hR2 hg2
      go_wp2_with fail
      go_ret3
      exact KeysP.no HK.out HB2.out
    have hu := toI_small hlt (by omega) (by omega)
    rw [hu] at HNum h1 h2
    have hd : decide ((u2 : Int) < 1) = false := decide_eq_false h1
    have hd2 : decide ((u2 : Int) > 4096) = false := decide_eq_false h2
    have hp2 : ((u2 : Int) + 255) / 256 = ((pieces u2 : Nat) : Int) := by unfold pieces; omega
    have hu0 : (0 : Int) ≤ u2 := by omega
    have hu3 : (u2 : Int) ≤ 4096 := by omega
    have hpm : pieces u2 ≤ 17 := by unfold pieces; omega
    have hko := fun (h4 : r.length = 32 * pieces u2) => keysL_ok H0.out (by rw [HR1.out]) (by rw [HR1.out]; show 1 ≤ Cd.toI u2; rw [hu]; omega) (by rw [HR1.out]; show Cd.toI u2 ≤ 4096; rw [hu]; omega) (by rw [HR1.out]; exact h4)
    rw [HR1.out] at hko
    dsimp only at hko
    rw [hu] at hko
    have HKo := Lib.hid hko
    clear hko
    have HKn : RowKit.Hid (r.length ≠ 32 * pieces u2 → keysL m = ([], 0, 11)) := Lib.hid (fun h => keysL_no H0.out (by rw [HR1.out]; exact fun h' => h h'.2.2.2))
    clear hu h1 h2 hlt
    generalize pieces u2 = P at *
    by_cases hl : r.length = 32 * P
    case neg =>
      have hq : (((r.length : Nat) : Int) != 32 * ((P : Nat) : Int)) = true := by rw [bne_iff_ne]; omega
      have HK := Lib.hid (HKn.out hl)
      clear hl
      go_enter Try.func15, Try.ntmps15
      go_wp2_with fail
      refine (HNum.out _ HRd.out).mono ?_
      rintro e w2 ⟨rfl, hR2, hg2⟩
      have HB2 := Lib.hid (below_gb HB0.out hg2 (Nat.le_refl _) HB0.out.size)
      obtain ⟨c0, c1, f0, f1⟩ := hR2.cells
      clear hR2 hg2
      go_wp2_with fail
      go_ret3
      exact KeysP.no HK.out HB2.out
    have hq : (((r.length : Nat) : Int) != 32 * ((P : Nat) : Int)) = false := by rw [bne_eq_false_iff_eq]; omega
    have HK := Lib.hid (HKo.out hl)
    have HL := Lib.hid hl
    clear hl HKn HKo
    go_enter Try.func15, Try.ntmps15
    go_wp2_with fail
    refine (HNum.out _ HRd.out).mono ?_
    rintro e w2 ⟨rfl, hR2, hg2⟩
    have HB2 := Lib.hid (below_gb HB0.out hg2 (Nat.le_refl _) HB0.out.size)
    have HR2 := Lib.hid hR2
    have hgs : w.heap.size < w2.heap.size := hR2.lt
    obtain ⟨c0, c1, f0, f1⟩ := hR2.cells
    clear hR2 hg2
    go_upto_region 7 with (fail)
    clear hp2 hq c0 c1 f0 f1
    go_wp2_with fail
    go_loopw [7, 8] (fun u i wr => ∃ k : Nat, k ≤ P ∧ i = .int .i64 (32 * k : Nat) ∧ OwnT wr (w.heap.size + 1) u (cut32 r k) ∧ Below w.heap.size w wr ∧ Cd.Rr wr w.heap.size r 0) (fun _ i _ => r.length - (intOf i).toNat)
    case atStart => exact ⟨0, by omega, rfl, OwnC.nil_ _ _ _, HB2.out, HR2.out⟩
    case round =>
      obtain ⟨k, hk, rfl, hO, hb, hRr⟩ := hrel
      obtain ⟨c0, c1, f0, f1⟩ := hRr.cells
      rcases Nat.lt_or_ge k P with hlt | hge
      · obtain ⟨A2, cc2, rfl⟩ := OwnC.isSlice hO
        have hl1 := HL.out
        have hki : 32 * (k : Int) < (r.length : Int) := by omega
        have hx := key32_extract r k
        have hn1 : (0 : Int) ≤ 32 * (k : Int) := by omega
        have hn2 : (32 * (k : Int)).toNat = 32 * k := by omega
        have hn3 : 32 * (k : Int) + 32 ≤ (r.length : Int) := by omega
        have hn4 : (32 * (k : Int) + 32).toNat = 32 * k + 32 := by omega
        have hcl : (cut32 r k).length ≤ 17 := by rw [cut32_len]; omega
        have HNx := Lib.hid (cut32_succ r k)
        have HO := Lib.hid (OwnC.alloc hO (.cells #[.string (bs (key32 r k))] 9))
        have HB := Lib.hid (hb.alloc hb.size (.cells #[.string (bs (key32 r k))] 9))
        have HRr := Lib.hid (Blk.alloc hRr (.cells #[.string (bs (key32 r k))] 9))
        have hbs := hRr.lt
        clear hO hb hl1 hRr
        go_wp2_with (at_builtin; refine wpList_append_C _ rfl (.tmp 50) (.tmp 59) 27 27 rfl 9 i0 (.string ⟨#[]⟩) 1 Try.underlying27 HI.out HZ0.out HZ1.out rfl (by decide) (w.heap.size + 1) _ (cut32 r k).length (strs (cut32 r k)) rfl HO.out (.slice (some ⟨wr.heap.size, 0, none⟩) 1 1) rfl 1 [.string (bs (key32 r k))] ?c1 ?c3 ?c4 ?c5 ?_)
        case c1 => exact Src.one Try.underlying27 (by simp [go_sem]) rfl
        case c3 => unfold maxLen; omega
        case c4 => rw [HZ2.out]; omega
        case c5 => simp; omega
        intro v' w5 hown hgrow hat
        have HOn := Lib.hid (OwnT.snoc hown)
        have HBn := Lib.hid (gb_own HB.out (Nat.le_succ _) (by simp; omega) HO.out hgrow)
        have HRn := Lib.hid (Blk.grown HRr.out hgrow (fun e => by have := (HO.out.ge _ e.symm).1; omega))
        clear hown hgrow hat
        go_wp2_with fail
        exact ⟨⟨k + 1, by omega, by go_num, by rw [HNx.out]; exact HOn.out, HBn.out, HRn.out⟩, by simp [intOf]; omega⟩
      · obtain rfl : k = P := by omega
        have hl1 := HL.out
        have hki : ¬ 32 * (k : Int) < (r.length : Int) := by omega
        have HO := Lib.hid (hO.mono (Nat.le_succ w.heap.size))
        have HB := Lib.hid hb
        clear hO hb hl1 hRr
        go_wp2_with fail
        go_ret3
        exact KeysP.yes HK.out HO.out HB.out
  · have hne : (e2 != 0) = true := by simpa using he
    have HK : RowKit.Hid (keysL m = ([], 0, 11)) := Lib.hid (keysL_no H0.out (by rw [HR1.out]; exact fun h => he h.1))
    clear he hlt
    go_enter Try.func15, Try.ntmps15
    go_wp2_with fail
    refine (HNum.out _ HRd.out).mono ?_
    rintro e w2 ⟨rfl, hR2, hg2⟩
    have HB2 := Lib.hid (below_gb HB0.out hg2 (Nat.le_refl _) HB0.out.size)
    obtain ⟨c0, c1, f0, f1⟩ := hR2.cells
    clear hR2 hg2
    go_wp2_with fail
    go_ret3
    exact KeysP.no HK.out HB2.out
end Go.Proofs.Ytdmopbfckdadnaa
