/- chunk.Keys. -/
import Derived.Test.YtnfbakldpjmbnaaPl
import Derived.Deep.Cut
namespace Go.Proofs.Ytnfbakldpjmbnaa
open Go.RowKit
attribute [local go_sem] bs_size bs_getElem bs_list bs_append

theorem u64_small {u : Nat} (h : u ≤ 5000) : Cd.u64 (u : Int) = u := by unfold Cd.u64; omega
def KeysP (w : World) (m : List UInt8) (e : Ending) (w' : World) : Prop := ∃ v, e = .returned (.tuple #[v, .int .i64 (keysL m).2.1, .int .i64 (keysL m).2.2]) ∧ OwnT w' w.heap.size v (keysL m).1 ∧ Below w.heap.size w w'
theorem KeysP.no {w w' : World} {m : List UInt8} (h : keysL m = ([], 0, 11)) (hb : Below w.heap.size w w') : KeysP w m (.returned (.tuple #[.slice none 0 0, .int .i64 0, .int .i64 11])) w' := by
  unfold KeysP; rw [h]; exact ⟨_, rfl, OwnC.nil_ _ _ _, hb⟩
theorem KeysP.nil_ {w w' : World} (hb : Below w.heap.size w w') : KeysP w [] (.returned (.tuple #[.slice none 0 0, .int .i64 0, .int .i64 0])) w' := by
  unfold KeysP; rw [keysL_nil]; exact ⟨_, rfl, OwnC.nil_ _ _ _, hb⟩
theorem KeysP.yes {w w' : World} {m r : List UInt8} {u P : Nat} (h : keysL m = (cut32 r P, (u : Int), 0)) {v : Value} (ho : OwnT w' w.heap.size v (cut32 r P)) (hb : Below w.heap.size w w') : KeysP w m (.returned (.tuple #[v, .int .i64 u, .int .i64 0])) w' := by
  unfold KeysP; rw [h]; exact ⟨_, rfl, ho, hb⟩

set_option maxRecDepth 100000 in
set_option maxHeartbeats 1600000 in
theorem keys_any (m : List UInt8) (hm : m.length ≤ 1000000) (w : World) : Calls Try.prog 15 #[.string (bs m)] w (KeysP w m) := by
  obtain ⟨i0, hi0, hz0, hz1, hz2⟩ := info_parts info9
  by_cases h0 : m = []
  · subst h0
    go_enter Try.func15, Try.ntmps15
    go_wp2_with fail
    go_ret3
    exact KeysP.nil_ (Below.refl _ _)
  have hem : m.isEmpty = false := by cases m <;> simp_all
  have hr := Cd.rnum_num m 0
  rw [List.drop_zero] at hr
  have hlt := Cd.numR_lt m 0
  have his := Cd.num_is m
  have hle0 := Cd.numR_le m 0 (Nat.zero_le _)
  have hnum := fun (w1 : World) (hR : Cd.Rd w1 w.heap.size m 0 0) => Cd.Num_any w.heap.size m 0 0 w1 hR (Nat.zero_le _) (by omega)
  have hS : Cd.numS m 0 0 = Cd.numR m 0 := by unfold Cd.numS; rw [if_pos rfl]
  rw [hS] at hnum
  have HRd := Lib.hid (Cd.Read_any m w)
  generalize hR1 : Cd.rnumR m = R at *
  generalize hN : Cd.numR m 0 = N at *
  obtain ⟨a, e1, u⟩ := N
  obtain ⟨r, e2, u2⟩ := R
  dsimp only at hr hlt his hle0 hnum
  obtain ⟨rfl, rfl, hrest⟩ := hr
  have HNum := Lib.hid hnum
  have HR1 := Lib.hid hR1
  have HI := Lib.hid hi0
  have HZ0 := Lib.hid hz0
  have HZ1 := Lib.hid hz1
  have HZ2 := Lib.hid hz2
  have H0 := Lib.hid h0
  have HIs := Lib.hid his
  have HRest := Lib.hid hrest
  clear hR1 hN hS h0 his hrest hi0 hz0 hz1 hz2 hnum
  by_cases he : e2 = 0
  · subst he
    by_cases h1 : Cd.toI u2 < 1
    · have HK : RowKit.Hid (keysL m = ([], 0, 11)) := Lib.hid (keysL_no H0.out (by rw [HR1.out]; exact fun h => absurd h.2.1 (by show ¬ 1 ≤ Cd.toI u2; omega)))
      generalize Cd.toI u2 = t at *
      have hd : decide (t < 1) = true := decide_eq_true h1
      clear h1
      go_enter Try.func15, Try.ntmps15
      go_wp2_with fail
      refine HRd.out.mono ?_
      rintro e w1 ⟨rfl, hR, hb⟩
      have HNw := Lib.hid (HNum.out w1 hR)
      have HB := Lib.hid hb
      have hgl := hR.lt
      clear hb hR
      go_wp2_with fail
      refine HNw.out.mono ?_
      rintro e w2 ⟨rfl, hR2, hg2⟩
      have HE := Lib.hid (Cd.Err_any _ _ _ _ _ hR2)
      have HB2 := Lib.hid (below_gb HB.out hg2 (Nat.le_refl _) HB.out.size)
      clear hR2 hg2
      go_wp2_with fail
      refine HE.out.mono ?_
      rintro e w3 ⟨rfl, rfl⟩
      go_wp2_with fail
      go_ret3
      exact KeysP.no HK.out HB2.out
    by_cases h2 : 4096 < Cd.toI u2
    · have HK : RowKit.Hid (keysL m = ([], 0, 11)) := Lib.hid (keysL_no H0.out (by rw [HR1.out]; exact fun h => absurd h.2.2.1 (by show ¬ Cd.toI u2 ≤ 4096; omega)))
      generalize Cd.toI u2 = t at *
      have hd : decide (t < 1) = false := decide_eq_false h1
      have hd2 : decide (t > 4096) = true := decide_eq_true h2
      clear h1 h2
      go_enter Try.func15, Try.ntmps15
      go_wp2_with fail
      refine HRd.out.mono ?_
      rintro e w1 ⟨rfl, hR, hb⟩
      have HNw := Lib.hid (HNum.out w1 hR)
      have HB := Lib.hid hb
      have hgl := hR.lt
      clear hb hR
      go_wp2_with fail
      refine HNw.out.mono ?_
      rintro e w2 ⟨rfl, hR2, hg2⟩
      have HE := Lib.hid (Cd.Err_any _ _ _ _ _ hR2)
      have HB2 := Lib.hid (below_gb HB.out hg2 (Nat.le_refl _) HB.out.size)
      clear hR2 hg2
      go_wp2_with fail
      refine HE.out.mono ?_
      rintro e w3 ⟨rfl, rfl⟩
      go_wp2_with fail
      go_ret3
      exact KeysP.no HK.out HB2.out
    have hu := toI_small hlt (by omega) (by omega)
    rw [hu] at HNum h1 h2
    have HU := Lib.hid hu
    obtain ⟨hi1, hi2, hi3⟩ := HIs.out rfl
    have hr0 : r = m.drop a := HRest.out rfl
    have hnl : Cd.numL (u2 : Int) = Cd.numU u2 := by unfold Cd.numL; rw [u64_small (by omega)]
    have hnm := Cd.num_c (u2 : Int)
    rw [hnl] at hnm
    generalize Cd.numU u2 = nu at *
    have HNm := Lib.hid (fun w => hnm w (by omega))
    clear hnm
    subst hi2
    have hx := drop_extract m nu.length
    rw [← hr0] at hx
    have HX := Lib.hid hx
    have hd : decide ((u2 : Int) < 1) = false := decide_eq_false h1
    have hd2 : decide ((u2 : Int) > 4096) = false := decide_eq_false h2
    have hnl2 : nu.length ≤ m.length := hi3
    have hp1 : ((u2 : Int) + 256 - 1) / 256 = ((pieces u2 : Nat) : Int) := by unfold pieces; omega
    have hp2 : ((u2 : Int) + 255) / 256 = ((pieces u2 : Nat) : Int) := by unfold pieces; omega
    have hu0 : (0 : Int) ≤ u2 := by omega
    have hu3 : (u2 : Int) ≤ 4096 := by omega
    have hpm : pieces u2 ≤ 17 := by unfold pieces; omega
    have hko := fun (h4 : r.length = 32 * pieces u2) => keysL_ok H0.out (by rw [HR1.out]) (by rw [HR1.out]; show 1 ≤ Cd.toI u2; rw [hu]; omega) (by rw [HR1.out]; show Cd.toI u2 ≤ 4096; rw [hu]; omega) (by rw [HR1.out]; exact h4)
    rw [HR1.out] at hko
    dsimp only at hko
    rw [hu] at hko
    have HKo := Lib.hid hko
    clear hko
    have HKn : RowKit.Hid (r.length ≠ 32 * pieces u2 → keysL m = ([], 0, 11)) := Lib.hid (fun h => keysL_no H0.out (by rw [HR1.out]; exact fun h' => h h'.2.2.2))
    clear HIs hi1 hi3 hr0 hnl hu h1 h2 hlt
    go_enter Try.func15, Try.ntmps15
    go_wp2_with fail
    refine HRd.out.mono ?_
    rintro e w1 ⟨rfl, hR, hb⟩
    have HNw := Lib.hid (HNum.out w1 hR)
    have HB := Lib.hid hb
    have hgl := hR.lt
    clear hb hR
    go_wp2_with fail
    refine HNw.out.mono ?_
    rintro e w2 ⟨rfl, hR2, hg2⟩
    have HE := Lib.hid (Cd.Err_any _ _ _ _ _ hR2)
    have HB2 := Lib.hid (below_gb HB.out hg2 (Nat.le_refl _) HB.out.size)
    clear hR2 hg2
    go_wp2_with fail
    refine HE.out.mono ?_
    rintro e w3 ⟨rfl, rfl⟩
    go_wp2_with fail
    refine (HNm.out w2).mono ?_
    rintro e w3 ⟨rfl, hb3⟩
    have HB3 := Lib.hid (HB2.out.trans (hb3.mono HB2.out.size))
    clear hb3
    go_upto_region 8 with (fail)
    generalize pieces u2 = P at *
    have hgl3 : w.heap.size ≤ w3.heap.size := HB3.out.size
    by_cases hl : r.length = 32 * P
    case neg =>
      have hq : (((r.length : Nat) : Int) != ((P : Nat) : Int) * 32) = true := by rw [bne_iff_ne]; omega
      have HK := Lib.hid (HKn.out hl)
      clear hl
      go_wp2_with fail
      go_ret3
      exact KeysP.no HK.out HB3.out
    have hq : (((r.length : Nat) : Int) != ((P : Nat) : Int) * 32) = false := by rw [bne_eq_false_iff_eq]; omega
    have HK := Lib.hid (HKo.out hl)
    have hl1 : (r.length : Int) = 32 * (P : Int) := by omega
    have HL := Lib.hid hl
    clear hl hl1 hx HKn HKo HNum HRd HNm HNw HE HRest
    go_upto_region 11 with (fail)
    clear hp1 hp2 hq
    go_wp2_with fail
    go_loopw [9, 10] (fun u i wr => ∃ k : Nat, k ≤ P ∧ i = .int .i64 (32 * k : Nat) ∧ OwnT wr w.heap.size u (cut32 r k) ∧ Below w.heap.size w wr) (fun _ i _ => r.length - (intOf i).toNat)
    case atStart => exact ⟨0, by omega, rfl, OwnC.nil_ _ _ _, HB3.out⟩
    case round =>
      obtain ⟨k, hk, rfl, hO, hb⟩ := hrel
      rcases Nat.lt_or_ge k P with hlt | hge
      · obtain ⟨A2, cc2, rfl⟩ := OwnC.isSlice hO
        have hl1 := HL.out
        have hki : 32 * (k : Int) < (r.length : Int) := by omega
        have hx := key32_extract r k
        have hn1 : (0 : Int) ≤ 32 * (k : Int) := by omega
        have hn2 : (32 * (k : Int)).toNat = 32 * k := by omega
        have hn3 : 32 * (k : Int) + 32 ≤ (r.length : Int) := by omega
        have hn4 : (32 * (k : Int) + 32).toNat = 32 * k + 32 := by omega
        have hcl : (cut32 r k).length ≤ 17 := by rw [cut32_len]; omega
        have HNx := Lib.hid (cut32_succ r k)
        have HO := Lib.hid (OwnC.alloc hO (.cells #[.string (bs (key32 r k))] 9))
        have HB := Lib.hid (hb.alloc hb.size (.cells #[.string (bs (key32 r k))] 9))
        have hbs := hb.size
        clear hO hb hl1
        go_wp2_with (at_builtin; refine wpList_append_C _ rfl (.tmp 48) (.tmp 54) 26 26 rfl 9 i0 (.string ⟨#[]⟩) 1 Try.underlying26 HI.out HZ0.out HZ1.out rfl (by decide) w.heap.size _ (cut32 r k).length (strs (cut32 r k)) rfl HO.out (.slice (some ⟨wr.heap.size, 0, none⟩) 1 1) rfl 1 [.string (bs (key32 r k))] ?c1 ?c3 ?c4 ?c5 ?_)
        case c1 => exact Src.one Try.underlying26 (by simp [go_sem]) rfl
        case c3 => unfold maxLen; omega
        case c4 => rw [HZ2.out]; omega
        case c5 => simp; omega
        intro v' w5 hown hgrow hat
        have HOn := Lib.hid (OwnT.snoc hown)
        have HBn := Lib.hid (gb_own HB.out (Nat.le_refl _) (by simp; omega) HO.out hgrow)
        clear hown hgrow hat
        go_wp2_with fail
        exact ⟨⟨k + 1, by omega, by go_num, by rw [HNx.out]; exact HOn.out, HBn.out⟩, by simp [intOf]; omega⟩
      · obtain rfl : k = P := by omega
        have hl1 := HL.out
        have hki : ¬ 32 * (k : Int) < (r.length : Int) := by omega
        have HO := Lib.hid hO
        have HB := Lib.hid hb
        clear hO hb hl1
        go_wp2_with fail
        go_ret3
        exact KeysP.yes HK.out HO.out HB.out
  · have hne : (e2 != 0) = true := by simpa using he
    have HK : RowKit.Hid (keysL m = ([], 0, 11)) := Lib.hid (keysL_no H0.out (by rw [HR1.out]; exact fun h => he h.1))
    clear he
    go_enter Try.func15, Try.ntmps15
    go_wp2_with fail
    refine HRd.out.mono ?_
    rintro e w1 ⟨rfl, hR, hb⟩
    have HNw := Lib.hid (HNum.out w1 hR)
    have HB := Lib.hid hb
    have hgl := hR.lt
    clear hb hR
    go_wp2_with fail
    refine HNw.out.mono ?_
    rintro e w2 ⟨rfl, hR2, hg2⟩
    have HE := Lib.hid (Cd.Err_any _ _ _ _ _ hR2)
    have HB2 := Lib.hid (below_gb HB.out hg2 (Nat.le_refl _) HB.out.size)
    clear hR2 hg2
    go_wp2_with fail
    refine HE.out.mono ?_
    rintro e w3 ⟨rfl, rfl⟩
    go_wp2_with fail
    go_ret3
    exact KeysP.no HK.out HB2.out
end Go.Proofs.Ytnfbakldpjmbnaa
