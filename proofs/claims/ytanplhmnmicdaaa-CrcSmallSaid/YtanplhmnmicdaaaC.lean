/- crc.More, crc.Sum, the document's; awake. -/
import Derived.Test.YtanplhmnmicdaaaB
import Derived.Test.YtanplhmnmicdaaaBs
namespace Go.Proofs.Ytanplhmnmicdaaa
open Go.RowKit
attribute [local go_sem] bs_size bs_getElem bs_list bs_append

theorem made_lt {w : World} {b : Nat} (h : Made w b) : b < w.heap.size := by rcases h with h | h <;> exact h.lt
theorem made_drew {w : World} {b : Nat} (h : Made w b) : Made w.drew b := h

theorem wrap64_small {n : Nat} (h : n < 4294967296) : wrap64 (n : Int) = (n : Int) := by unfold wrap64; omega

set_option maxRecDepth 100000 in
set_option maxHeartbeats 1600000 in
theorem more_c (s : Int) (l : List UInt8) (hl : l.length ≤ 9223372036854775807) (w : World) :
    Calls Try.prog 11 #[.int .i64 s, .string (bs l)] w fun e w' => e = .returned (.int .i64 ((moreL s l : Nat) : Int)) ∧ Below w.heap.size w w' := by
  have hM : IntKind.u32.max = 4294967295 := rfl
  obtain ⟨zs, hzs, hz⟩ : ∃ zs, zs = Tb 0 0 0 ∧ ∀ w, (zeroValue 45).run Try.prog w = .ok (.agg zs) w := ⟨_, rfl, fun w => by kernel_rfl⟩
  have hT0 : ∀ zs, zs = Tb 0 0 0 → Made (w.alloc (.cells zs 45)) w.heap.size := fun zs h => Or.inl (by rw [h]; exact Blk.new w 45 _)
  have hb0 : ∀ zs, Below w.heap.size w (w.alloc (.cells zs 45)) := fun zs => (Below.refl _ w).alloc (Nat.le_refl _) _
  have hx0 : bits .xor .u32 4294967295 (s % 4294967296) = ((m32 s ^^^ 4294967295 : Nat) : Int) := by
    have := flip_code (m32_lt s)
    rw [← this]; unfold m32; congr 1; omega
  have hX0 := flip_lt (m32_lt s)
  have hfin : foldC (m32 s ^^^ 4294967295) l ^^^ 4294967295 = moreL s l := rfl
  have hlt := moreL_lt s l
  generalize m32 s ^^^ 4294967295 = X0 at *
  have HX0 := Lib.hid hX0
  have HF := Lib.hid hfin
  have HL := Lib.hid hlt
  have HZ := Lib.hid hx0
  clear hX0 hfin hlt hx0
  have HT0 := Lib.hid hT0
  have HB0 := Lib.hid hb0
  have HZS := Lib.hid hzs
  clear hT0 hb0 hzs
  go_enter Try.func11, Try.ntmps11
  go_wp2_with fail
  rw [HZ.out]
  go_loopw [6, 15] (fun x i wr => ∃ k : Nat, k ≤ l.length ∧ i = .int .i64 k ∧ x = .int .u32 ((foldC X0 (l.take k) : Nat) : Int) ∧ Made wr w.heap.size ∧ Below w.heap.size w wr) (fun _ i _ => l.length - (intOf i).toNat)
  case atStart => exact ⟨0, by omega, rfl, by simp [foldC], HT0.out _ (by first | exact HZS.out | kernel_rfl), HB0.out _⟩
  case round =>
    obtain ⟨k, hk, rfl, rfl, hM, hb⟩ := hrel
    rcases Nat.lt_or_ge k l.length with hlt | hge
    · have hX := foldC_lt (l.take k) HX0.out
      have hnx := foldC_snoc X0 l k hlt
      have hby := l[k].toNat_lt
      rw [← upd_eq] at hnx
      generalize foldC X0 (l.take k) = X at *
      have hxb : X % 256 ^^^ l[k].toNat < 256 := Nat.xor_lt_two_pow (n := 8) (by omega) hby
      have h1 : bits .xor .u8 ((X : Int) % 256) ((l[k].toNat : Nat) : Int) = ((X % 256 ^^^ l[k].toNat : Nat) : Int) := by
        rw [show ((X : Int) % 256) = ((X % 256 : Nat) : Int) from by omega]
        exact u8_xor_nat _ _ (by omega) hby
      have h2 := upd_code hX hxb
      have H1 := Lib.hid h1
      have H2 := Lib.hid h2
      have H3 := Lib.hid hnx
      clear h1 h2 hnx
      go_wp2_with fail
      rw [H1.out]
      refine (step_any _ _ hxb _ hM).mono ?_
      rintro e w2 ⟨rfl, hM2, hg2⟩
      have hb2 := below_gb hb hg2 (Nat.le_refl _) hb.size
      have HB := Lib.hid hb2
      have HM := Lib.hid hM2
      clear hb2 hM2 hg2 hb hM
      go_wp2_with fail
      go_roundw
      case rel => exact ⟨k + 1, by omega, by go_num, by rw [H2.out, H3.out]; rfl, HM.out, HB.out⟩
      case measure => simp [intOf]; omega
    · obtain rfl : k = l.length := by omega
      have HB := Lib.hid hb
      clear hb hM
      rw [List.take_length] at *
      have hX := foldC_lt l HX0.out
      have h1 := flip_code hX
      rw [HF.out] at h1
      generalize foldC X0 l = X at *
      have H1 := Lib.hid h1
      clear h1
      have hlt := HL.out
      go_wp2_with fail
      rw [H1.out, wrap64_small hlt]
      go_ret
      exact ⟨rfl, HB.out⟩

set_option maxHeartbeats 400000 in
theorem sum_c (l : List UInt8) (hl : l.length ≤ 9223372036854775807) (w : World) :
    Calls Try.prog 8 #[.string (bs l)] w fun e w' => e = .returned (.int .i64 ((sumL l : Nat) : Int)) ∧ Below w.heap.size w w' := by
  go_enter Try.func8, Try.ntmps8
  go_wp2_with fail
  refine (more_c 0 l hl _).mono ?_
  rintro e w1 ⟨rfl, hb1⟩
  go_wp2_with fail
  go_ret
  exact ⟨rfl, hb1⟩

theorem and_m32 (s : Int) : bits .and .i64 s 4294967295 = ((m32 s : Nat) : Int) := by
  unfold bits m32
  have e : IntKind.i64.bits = 64 := rfl
  have e2 : IntKind.i64.signed = true := rfl
  have h1 : (BitVec.ofInt IntKind.i64.bits 4294967295).toNat = 2 ^ 32 - 1 := by rw [e]; decide
  have h2 : ((BitVec.ofInt IntKind.i64.bits s).toNat : Int) = s % 18446744073709551616 := by
    rw [BitVec.toNat_ofInt, e]; omega
  simp only [BitVec.toNat_and, h1, Nat.and_two_pow_sub_one_eq_mod]
  simp [IntKind.wrap, e, e2]
  omega
theorem tick_i64 {X : Nat} (h : X < 4294967296) (b : Bool) (hb : b = decide ((X : Int) % 2 = 1)) : ((tick X : Nat) : Int) = if b then bits .xor .i64 ((X : Int) / 2) 3988292384 else (X : Int) / 2 := by
  subst hb
  unfold tick
  have hx := xor_i64 (a := X / 2) (b := 3988292384) (by omega) (by decide)
  rcases Nat.mod_two_eq_zero_or_one X with hm | hm
  · rw [hm]; simp; omega
  · rw [hm, if_pos (by simp; omega)]
    rw [show ((X : Int) / 2) = ((X / 2 : Nat) : Int) from by omega]
    rw [show 1 * 3988292384 = 3988292384 from rfl]
    exact hx.symm

set_option maxRecDepth 100000 in
set_option maxHeartbeats 1600000 in
theorem more_r (s : Int) (l : List UInt8) (hl : l.length ≤ 9223372036854775807) (w : World) :
    Calls Try.prog 12 #[.int .i64 s, .string (bs l)] w fun e w' => e = .returned (.int .i64 ((moreL s l : Nat) : Int)) ∧ w = w' := by
  have hm := and_m32 s
  have hx0 := xor_i64 (a := m32 s) (b := 4294967295) (by have := m32_lt s; omega) (by decide)
  have hX0 := flip_lt (m32_lt s)
  have hfin : foldC (m32 s ^^^ 4294967295) l ^^^ 4294967295 = moreL s l := rfl
  generalize m32 s ^^^ 4294967295 = X0 at *
  have HX0 := Lib.hid hX0
  have HF := Lib.hid hfin
  have HZ := Lib.hid hx0
  have HA := Lib.hid hm
  clear hX0 hfin hx0 hm
  go_enter Try.func12, Try.ntmps12
  go_wp2_with fail
  rw [HA.out, show (4294967295 : Int) = ((4294967295 : Nat) : Int) from rfl, HZ.out]
  clear HZ HA
  go_loopw [5, 6] (fun x i wr => ∃ k : Nat, k ≤ l.length ∧ i = .int .i64 k ∧ x = .int .i64 ((foldC X0 (l.take k) : Nat) : Int) ∧ wr = w) (fun _ i _ => l.length - (intOf i).toNat)
  case atStart => exact ⟨0, by omega, rfl, by simp [foldC], rfl⟩
  case round =>
    obtain ⟨k, hk, rfl, rfl, rfl⟩ := hrel
    rcases Nat.lt_or_ge k l.length with hlt | hge
    · have hX := foldC_lt (l.take k) HX0.out
      have hnx := foldC_snoc X0 l k hlt
      have hby := l[k].toNat_lt
      generalize foldC X0 (l.take k) = X at *
      have hx1 := xor_i64 (a := X) (b := l[k].toNat) (by omega) (by omega)
      have hY0 : X ^^^ l[k].toNat < 4294967296 := Nat.xor_lt_two_pow (n := 32) hX (by omega)
      obtain ⟨Y0, hY⟩ : ∃ y, X ^^^ l[k].toNat = y := ⟨_, rfl⟩
      rw [hY] at hx1 hnx hY0
      have H1 := Lib.hid hx1
      have H2 := Lib.hid hnx
      have H3 := Lib.hid hY0
      clear hx1 hnx hY0 hY
      obtain ⟨wo, hwo⟩ : ∃ wo, wo = wr := ⟨_, rfl⟩
      rw [← hwo]
      clear hwo
      go_wp2_with fail
      rw [H1.out]
      go_loopw [5, 7, 8] (fun x i _ wr => ∃ m : Nat, m ≤ 8 ∧ i = .int .i64 m ∧ x = .int .i64 ((ticks m Y0 : Nat) : Int) ∧ wr = wo) (fun _ i _ _ => 8 - (intOf i).toNat)
      case atStart => exact ⟨0, by omega, rfl, rfl, rfl⟩
      case round =>
        obtain ⟨m, hm, rfl, rfl, rfl⟩ := hrel
        have hX := ticks_lt H3.out m
        rcases Nat.lt_or_ge m 8 with hml | hmg
        · have hnext : tick (ticks m Y0) = ticks (m + 1) Y0 := rfl
          have hcode := fun b hb => tick_i64 hX b hb
          rw [hnext] at hcode
          generalize ticks m Y0 = X at *
          rcases Nat.mod_two_eq_zero_or_one X with hpar | hpar
          · have hp' : (X : Int) % 2 = 0 := by omega
            have hc := hcode false (by simp; omega)
            have HC := Lib.hid hc
            clear hcode hc
            go_wp2_with fail
            exact ⟨⟨m + 1, by omega, by go_num, by simpa using HC.out.symm, trivial⟩, by simp [intOf]; omega⟩
          · have hp' : (X : Int) % 2 = 1 := by omega
            have hc := hcode true (by simp; omega)
            have HC := Lib.hid hc
            clear hcode hc
            go_wp2_with fail
            exact ⟨⟨m + 1, by omega, by go_num, by simpa using HC.out.symm, trivial⟩, by simp [intOf]; omega⟩
        · obtain rfl : m = 8 := by omega
          have HX := Lib.hid hX
          clear hX
          go_wp2_with fail
          exact ⟨⟨k + 1, by omega, by go_num, by rw [H2.out]; rfl, trivial⟩, by simp [intOf]; omega⟩
    · obtain rfl : k = l.length := by omega
      rw [List.take_length] at *
      have hX := foldC_lt l HX0.out
      have h1 := xor_i64 (a := foldC X0 l) (b := 4294967295) (by omega) (by decide)
      rw [HF.out] at h1
      generalize foldC X0 l = X at *
      have H1 := Lib.hid h1
      clear h1
      go_wp2_with fail
      rw [show (4294967295 : Int) = ((4294967295 : Nat) : Int) from rfl, H1.out]
      go_ret
      exact ⟨rfl, rfl⟩

set_option maxHeartbeats 400000 in
theorem sum_r (l : List UInt8) (hl : l.length ≤ 9223372036854775807) (w : World) :
    Calls Try.prog 9 #[.string (bs l)] w fun e w' => e = .returned (.int .i64 ((sumL l : Nat) : Int)) ∧ w = w' := by
  go_enter Try.func9, Try.ntmps9
  go_wp2_with fail
  refine (more_r 0 l hl _).mono ?_
  rintro e w1 ⟨rfl, rfl⟩
  go_wp2_with fail
  go_ret
  exact ⟨rfl, rfl⟩

set_option maxHeartbeats 400000 in
theorem awake_any (w : World) : Calls Try.prog 10 #[] w fun e' w' => e' = .returned (.bool true) ∧ Below w.heap.size w w' := by
  have h1 := awake_nine
  have h2 := awake_none
  have H1 := Lib.hid h1
  have H2 := Lib.hid h2
  clear h1 h2
  go_enter Try.func10, Try.ntmps10
  go_wp2_with fail
  refine (sum_c [49, 50, 51, 52, 53, 54, 55, 56, 57] (by decide) _).mono ?_
  rintro e w1 ⟨rfl, hb1⟩
  rw [H1.out]
  go_wp2_with fail
  refine (sum_c [] (by decide) _).mono ?_
  rintro e w2 ⟨rfl, hb2⟩
  rw [H2.out]
  have hb := hb1.trans (hb2.mono hb1.size)
  go_wp2_with fail
  go_ret
  exact ⟨rfl, hb⟩
end Go.Proofs.Ytanplhmnmicdaaa
