/- The law of ChunkJoins. -/
import Derived.Test.YtdmopbfckdadnaaJo
namespace Go.Proofs.Ytdmopbfckdadnaa
open Go.RowKit
attribute [local go_sem] bs_size bs_getElem bs_list bs_append

set_option maxRecDepth 100000 in
set_option maxHeartbeats 1600000 in
theorem law_joins (m : List UInt8) (A : Option Addr) (n c : Nat) (l : List (List UInt8)) (w : World) (hl : m.length ≤ 9223372036854775807) (hx : Strs w A n c l) :
    Calls Try.prog 7 #[.string (bs m), .slice A n c] w fun e w' => e = .returned (.bool true) ∧ Below w.heap.size w w' := by
  have hn := hx.len
  have hmx := hx.max
  have hle := hx.le
  have HX := Lib.hid hx
  clear hx
  by_cases h1 : 1000 < m.length
  · have hd : decide (((m.length : Nat) : Int) > 1000) = true := decide_eq_true (by omega)
    clear hl
    go_enter Try.func7, Try.ntmps7
    go_wp2_with fail
    refine (awake_any _).mono ?_
    rintro e w1 ⟨rfl, hb⟩
    go_wp2_with fail
    go_ret
    exact ⟨rfl, hb⟩
  have hd : decide (((m.length : Nat) : Int) > 1000) = false := decide_eq_false (by omega)
  by_cases h2 : 30 < n
  · have hd2 : decide (((n : Nat) : Int) > 30) = true := decide_eq_true (by omega)
    clear hl
    go_enter Try.func7, Try.ntmps7
    go_wp2_with fail
    refine (awake_any _).mono ?_
    rintro e w1 ⟨rfl, hb⟩
    go_wp2_with fail
    go_ret
    exact ⟨rfl, hb⟩
  have hd2 : decide (((n : Nat) : Int) > 30) = false := decide_eq_false (by omega)
  have hn30 : n ≤ 30 := by omega
  have hml : m.length ≤ 1000 := by omega
  clear h1 h2
  have HJ := Lib.hid (fun (w' : World) (h : Strs w' A n c l) (hs : ∀ s ∈ l, s.length ≤ 100000) => join_any m (by omega) A n c l w' h hs)
  have HR := Lib.hid (fun (w' : World) (h : Strs w' A n c l) (hs : ∀ s ∈ l, s.length ≤ 100000) => rjoin_any m (by omega) A n c l w' h hs)
  unfold JoinP at HJ HR
  generalize joinJ (keysL m) l = J at *
  obtain ⟨js, je⟩ := J
  dsimp only at HJ HR
  clear hl
  go_enter Try.func7, Try.ntmps7
  go_wp2_with fail
  go_loopw [5] (fun i wr => ∃ k : Nat, k ≤ n ∧ i = .int .i64 k ∧ RowKit.Hid (∀ j (h : j < l.length), j < k → l[j].length ≤ 1000) ∧ Below w.heap.size w wr) (fun i _ => n - (intOf i).toNat)
  case atStart => exact ⟨0, by omega, rfl, Lib.hid (fun j h h0 => by omega), Below.refl _ _⟩
  case round =>
    obtain ⟨k, hk, rfl, HA, hb⟩ := hrel
    rcases Nat.lt_or_ge k n with hlt | hge
    · have hkl : k < l.length := by omega
      obtain ⟨b, off, rfl, hbl, c0, hm⟩ := Strs.at_ (HX.out.below hb) hkl
      have hki : (k : Int) < (n : Int) := by omega
      have HN := Lib.hid (fun (h : l[k].length ≤ 1000) => (show ∀ j (hj : j < l.length), j < k + 1 → l[j].length ≤ 1000 from fun j hj hjk => by
        rcases Nat.lt_or_ge j k with h2 | h2
        · exact HA.out j hj h2
        · obtain rfl : j = k := by omega
          exact h))
      have HB := Lib.hid hb
      generalize l[k] = s at *
      clear hb hkl
      by_cases hs : s.length ≤ 1000
      · have hq : decide (((s.length : Nat) : Int) > 1000) = false := decide_eq_false (by omega)
        have HN2 := Lib.hid (HN.out hs)
        clear hs
        go_wp2_with fail
        exact ⟨⟨k + 1, by omega, by go_num, HN2, HB.out⟩, by simp [intOf]; omega⟩
      · have hq : decide (((s.length : Nat) : Int) > 1000) = true := decide_eq_true (by omega)
        clear hs
        go_wp2_with fail
        refine (awake_any _).mono ?_
        rintro e w2 ⟨rfl, hb2⟩
        have HB2 := Lib.hid (HB.out.trans (hb2.mono HB.out.size))
        clear hb2
        go_wp2_with fail
        go_ret
        exact ⟨rfl, HB2.out⟩
    · have hkn : ¬ (k : Int) < (n : Int) := by omega
      have HAll := Lib.hid (show ∀ s ∈ l, s.length ≤ 100000 from fun s hs => by
        obtain ⟨j, hj, rfl⟩ := List.mem_iff_getElem.1 hs
        have := HA.out j hj (by omega)
        omega)
      have HB := Lib.hid hb
      have HX1 := Lib.hid (HX.out.below hb)
      clear hb
      go_wp2_with fail
      refine (HJ.out wr HX1.out HAll.out).mono ?_
      rintro e w2 ⟨rfl, hb2⟩
      have HB2 := Lib.hid (HB.out.trans (hb2.mono HB.out.size))
      have HX2 := Lib.hid (HX1.out.below hb2)
      clear hb2
      go_wp2_with fail
      refine (HR.out w2 HX2.out HAll.out).mono ?_
      rintro e w3 ⟨rfl, hb3⟩
      have HB3 := Lib.hid (HB2.out.trans (hb3.mono HB2.out.size))
      clear hb3
      go_wp2_with fail
      refine (awake_any w3).mono ?_
      rintro e w6 ⟨rfl, hb6⟩
      have HB6 := Lib.hid (HB3.out.trans (hb6.mono HB3.out.size))
      clear hb6
      go_wp2_with fail
      go_ret
      exact ⟨rfl, HB6.out⟩
end Go.Proofs.Ytdmopbfckdadnaa
