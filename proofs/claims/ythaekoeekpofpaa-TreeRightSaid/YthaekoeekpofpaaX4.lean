/- The document's Fold; the walk of TreeFolds. -/
import Derived.Test.YthaekoeekpofpaaY3
namespace Go.Proofs.Ythaekoeekpofpaa
open Go.RowKit
attribute [local go_sem] bs_size bs_getElem bs_list bs_append

set_option maxRecDepth 100000 in
set_option maxHeartbeats 1600000 in
theorem rfold_any (A : Option Addr) (n c : Nat) (l : List TOp) (w : World) (hl : Ops w A n c l) (hm : n ≤ 1000) :
    Calls Try.prog 14 #[.slice A n c] w (Done w (foldN l)) := by
  have hn := hl.len
  have hmx := hl.max
  have hle := hl.le
  have HL := Lib.hid hl
  clear hl
  go_enter Try.func14, Try.ntmps14
  go_wp2_with fail
  go_loopw [3, 4] (fun u i wr => ∃ k : Nat, k ≤ n ∧ i = .int .i64 k ∧ (∃ A2 n2 c2, u = .slice A2 n2 c2 ∧ Nds wr A2 n2 c2 (foldN (l.take k))) ∧ Below w.heap.size w wr) (fun _ i _ => n - (intOf i).toNat)
  case atStart => exact ⟨0, by omega, rfl, ⟨none, 0, 0, rfl, Sl.nil_⟩, Below.refl _ _⟩
  case round =>
    obtain ⟨k, hk, rfl, ⟨A2, n2, c2, rfl, hN⟩, hb⟩ := hrel
    rcases Nat.lt_or_ge k n with hlt | hge
    · have hkl : k < l.length := by omega
      obtain ⟨b, off, rfl, hbl, c0, c1, c2', c3, c4, c5, c6, c7, c8, c9, c10, m1, m2⟩ := Ops.at_ (HL.out.below hb) hkl
      have hnext := foldN_take l k hkl
      have hlen : n2 ≤ 1000 := by
        have h1 := hN.len
        have h2 := foldN_len (l.take k)
        rw [List.length_take] at h2
        omega
      have hop : OpS l[k] := ⟨m1, m2⟩
      generalize l[k] = x at *
      have hki : (k : Int) < (n : Int) := by omega
      have HD := Lib.hid (rdo_any x A2 n2 c2 (foldN (l.take k)) _ hN hop (by omega))
      have HB := Lib.hid hb
      have HS := Lib.hid hb.size
      have HNx := Lib.hid hnext
      clear hb hN hnext hop m1 m2 hkl
      unfold ov at HD
      go_wp2_with fail
      refine HD.out.mono ?_
      rintro e w2 ⟨A3, c3', rfl, hN3, hb3⟩
      have HN3 := Lib.hid hN3
      have HB3 := Lib.hid (HB.out.trans (hb3.mono HS.out))
      clear hN3 hb3
      go_wp2_with fail
      exact ⟨⟨k + 1, by omega, by go_num, ⟨_, _, _, rfl, by rw [HNx.out]; exact HN3.out⟩, HB3.out⟩, by simp [intOf]; omega⟩
    · have hkn : ¬ (k : Int) < (n : Int) := by omega
      have hfin : l.take k = l := List.take_of_length_le (by omega)
      rw [hfin] at hN
      have h2 := hN.len
      subst h2
      have HN := Lib.hid hN
      have HB := Lib.hid hb
      clear hN hb hfin
      go_wp2_with fail
      go_ret
      exact ⟨_, _, rfl, HN.out, HB.out⟩

set_option maxRecDepth 100000 in
set_option maxHeartbeats 1600000 in
theorem law_folds (A : Option Addr) (n c : Nat) (l : List TOp) (w : World) (hx : Ops w A n c l) :
    Calls Try.prog 3 #[.slice A n c] w fun e w' => e = .returned (.bool true) ∧ Below w.heap.size w w' := by
  have HX := Lib.hid hx
  have HF := Lib.hid (few_is A n c l w hx)
  cases hfb : fewB l with
  | false =>
    rw [hfb] at HF
    clear hx hfb
    go_enter Try.func3, Try.ntmps3
    go_wp2_with fail
    refine HF.out.mono ?_
    rintro e w2 ⟨rfl, hb2⟩
    have HB2 := Lib.hid hb2
    clear hb2
    go_wp2_with fail
    refine (awake_any w2).mono ?_
    rintro e w3 ⟨rfl, hb3⟩
    have HB3 := Lib.hid (HB2.out.trans (hb3.mono HB2.out.size))
    clear hb3
    go_wp2_with fail
    go_ret
    exact ⟨rfl, HB3.out⟩
  | true =>
    rw [hfb] at HF
    have HM : RowKit.Hid (n ≤ 1000) := Lib.hid (by have := fewB_le hfb; have := hx.len; omega)
    have hfl := fewB_le hfb
    have HFl := Lib.hid (show (foldN l).length ≤ 1000 from Nat.le_trans (foldN_len l) (Nat.le_trans hfl (by decide)))
    clear hx hfb hfl
    generalize hfo : foldN l = fs at *
    have HFo := Lib.hid hfo
    clear hfo
    go_enter Try.func3, Try.ntmps3
    go_wp2_with fail
    refine HF.out.mono ?_
    rintro e w2 ⟨rfl, hb2⟩
    have HB2 := Lib.hid hb2
    have HX2 := Lib.hid (HX.out.below hb2)
    clear hb2
    go_wp2_with fail
    refine (fold_any A n c l w2 HX2.out HM.out).mono ?_
    rw [HFo.out]
    rintro e w3 ⟨A3, c3, rfl, hN3, hb3⟩
    have HN3 := Lib.hid hN3
    have HX3 := Lib.hid (HX2.out.below hb3)
    have HB3 := Lib.hid (HB2.out.trans (hb3.mono HB2.out.size))
    clear hb3 hN3
    go_wp2_with fail
    refine (rfold_any A n c l w3 HX3.out HM.out).mono ?_
    rw [HFo.out]
    rintro e w4 ⟨A4, c4, rfl, hN4, hb4⟩
    have HN4 := Lib.hid hN4
    have HN3b := Lib.hid (HN3.out.below hb4)
    have HB4 := Lib.hid (HB3.out.trans (hb4.mono HB3.out.size))
    clear hb4 hN4
    go_wp2_with fail
    refine (same_any A3 A4 _ c3 c4 fs w4 HN3b.out HN4.out).mono ?_
    rintro e w5 ⟨rfl, hb5⟩
    have HB5 := Lib.hid (HB4.out.trans (hb5.mono HB4.out.size))
    clear hb5
    go_wp2_with fail
    refine (awake_any w5).mono ?_
    rintro e w6 ⟨rfl, hb6⟩
    have HB6 := Lib.hid (HB5.out.trans (hb6.mono HB5.out.size))
    clear hb6
    go_wp2_with fail
    go_ret
    exact ⟨rfl, HB6.out⟩
end Go.Proofs.Ythaekoeekpofpaa
