/- The walks of codec's reader. -/
import Derived.Test.YtnfbakldpjmbnaaRows
import Derived.Test.YtnfbakldpjmbnaaWords
import Derived.Test.YtnfbakldpjmbnaaCdPlain
import Derived.Test.YtnfbakldpjmbnaaShelf
import Derived.Outline
import Derived.Laws.BitsAllLaws
import Derived.Deep.QuietTactic
import Derived.BigQuiet
namespace Go.Proofs.Ytnfbakldpjmbnaa.Cd
open Go.RowKit

/-- A reader of codec: its block. -/
abbrev Rd (w : World) (g : Nat) (d : List UInt8) (a : Nat) (e : Int) : Prop := Blk w g 77 #[.string (bs d), .int .i64 a, .int .i64 e]
theorem Rd.cells {w : World} {g : Nat} {d : List UInt8} {a : Nat} {e : Int} (h : Rd w g d a e) :
    w.cell? ⟨g, 0, none⟩ = some (.string (bs d)) ∧ w.cell? ⟨g, 1, none⟩ = some (.int .i64 a) ∧ w.cell? ⟨g, 2, none⟩ = some (.int .i64 e) ∧ w.frozen? ⟨g, 0, none⟩ = false ∧ w.frozen? ⟨g, 1, none⟩ = false ∧ w.frozen? ⟨g, 2, none⟩ = false :=
  ⟨h.cell 0, h.cell 1, h.cell 2, h.frozen 0, h.frozen 1, h.frozen 2⟩

theorem wrap_u64 (n : Nat) (h : n < 18446744073709551616) : IntKind.u64.wrap (n : Int) = (n : Int) := by simp [IntKind.wrap, IntKind.signed, IntKind.bits]; omega
theorem or_byte (u c : Nat) (hu : u < 72057594037927936) (hc : c < 256) : bits .or .u64 (IntKind.u64.wrap ((u : Int) * 256)) (IntKind.u64.wrap (c : Int)) = ((u * 256 + c : Nat) : Int) := by
  have e1 : IntKind.u64.wrap ((u : Int) * 256) = ((u * 256 : Nat) : Int) := by simp [IntKind.wrap, IntKind.signed, IntKind.bits]; omega
  rw [e1, wrap_u64 c (by omega), u64_or_nat _ _ (by omega) (by omega), nat_join 8 (u * 256) c (by omega) (by omega)]
theorem foldB_lt8 {l : List UInt8} {k : Nat} (h : k < 8) : foldB (l.take k) < 72057594037927936 := by
  have h1 := foldB_lt _ (l.take k) rfl
  have h2 : (l.take k).length ≤ 7 := by rw [List.length_take]; omega
  have h3 : (256 : Nat) ^ (l.take k).length ≤ 256 ^ 7 := Nat.pow_le_pow_right (by omega) h2
  have h4 : (256 : Nat) ^ 7 = 72057594037927936 := by decide
  omega

attribute [local go_sem] bs_size bs_getElem bs_list

set_option maxHeartbeats 400000 in
theorem take_no (g : Nat) (d : List UInt8) (a : Nat) (e : Int) (n : Nat) (w : World) (hR : Rd w g d a e) (ha : a ≤ d.length) (hd : d.length ≤ 9223372036854775807) (hn : n < 18446744073709551616) (hlt : d.length - a < n) :
    Calls Try.prog 41 #[.pointer (some ⟨g, 0, none⟩), .int .u64 n] w fun e w' => e = .returned (.string (bs [])) ∧ Rd w' g d a 10 ∧ w.grownBy w' (some g) := by
  obtain ⟨c0, c1, c2, f0, f1, f2⟩ := hR.cells
  go_enter Try.func41, Try.ntmps41
  go_wp2
  go_quiet (fail)
  have ht : (d.length : Int) - a < n := by omega
  go_wp2
  go_ret
  exact ⟨rfl, (hR.drewN nq).set_ 2 _, gb_setCell (gb_drewN (gb_refl _ _) _) (.inl rfl) _⟩

theorem ret_str {a b : List UInt8} (h : a = b) : Ending.returned (.string (bs a)) = .returned (.string (bs b)) := by rw [h]
set_option maxHeartbeats 400000 in
theorem take_yes (g : Nat) (d : List UInt8) (a : Nat) (e : Int) (n : Nat) (w : World) (hR : Rd w g d a e) (ha : a ≤ d.length) (hd : d.length ≤ 9223372036854775807) (hlt : a + n ≤ d.length) :
    Calls Try.prog 41 #[.pointer (some ⟨g, 0, none⟩), .int .u64 n] w fun e' w' => e' = .returned (.string (bs ((d.drop a).take n))) ∧ Rd w' g d (a + n) e ∧ w.grownBy w' (some g) := by
  obtain ⟨c0, c1, c2, f0, f1, f2⟩ := hR.cells
  have H1 := Lib.hid (bs_extract d a (a + n))
  have H2 : Hid (a + n - a = n) := by show _ = _; omega
  go_enter Try.func41, Try.ntmps41
  go_wp2
  go_quiet (fail)
  have ht : ¬ (d.length : Int) - a < n := by omega
  go_wp2
  go_quiet (fail)
  go_wp2
  go_ret
  refine ⟨?_, (hR.drewN _).set_ 1 _, gb_setCell (gb_drewN (gb_refl _ _) _) (.inl rfl) _⟩
  show Ending.returned (.string ((bs d).extract a (a + n))) = _
  rw [H1.out, H2.out]

set_option maxHeartbeats 400000 in
theorem num_end (g : Nat) (d : List UInt8) (w : World) (hR : Rd w g d d.length 0) (hd : d.length ≤ 9223372036854775807) :
    Calls Try.prog 34 #[.pointer (some ⟨g, 0, none⟩)] w fun e' w' => e' = .returned (.int .u64 0) ∧ Rd w' g d d.length 10 ∧ w.grownBy w' (some g) := by
  go_enter Try.func34, Try.ntmps34
  go_wp2_with fail
  refine (take_no g d d.length 0 1 w hR (Nat.le_refl _) hd (by omega) (by omega)).mono ?_
  rintro e w1 ⟨rfl, hR1, hg1⟩
  obtain ⟨c0, c1, c2, f0, f1, f2⟩ := hR1.cells
  go_wp2_with fail
  go_ret
  exact ⟨rfl, hR1, hg1⟩

set_option maxHeartbeats 400000 in
theorem num_big (g : Nat) (d : List UInt8) (a : Nat) (h : UInt8) (t : List UInt8) (w : World) (hR : Rd w g d a 0) (hdr : d.drop a = h :: t) (hd : d.length ≤ 9223372036854775807) (hh : 8 < h.toNat) :
    Calls Try.prog 34 #[.pointer (some ⟨g, 0, none⟩)] w fun e' w' => e' = .returned (.int .u64 0) ∧ Rd w' g d (a + 1) 11 ∧ w.grownBy w' (some g) := by
  have hlen : d.length - a = t.length + 1 := by rw [← List.length_drop, hdr]; rfl
  have HD : Hid ((d.drop a).take 1 = [h]) := by show _ = _; rw [hdr]; rfl
  clear hdr
  have hle : a + 1 ≤ d.length := by omega
  clear hlen
  go_enter Try.func34, Try.ntmps34
  go_wp2_with fail
  refine (take_yes g d a 0 1 w hR (by omega) hd hle).mono ?_
  rintro e w1 ⟨rfl, hR1, hg1⟩
  rw [HD.out]
  obtain ⟨c0, c1, c2, f0, f1, f2⟩ := hR1.cells
  go_wp2_with fail
  go_ret
  exact ⟨rfl, hR1.set_ 2 _, gb_setCell hg1 (.inl rfl) _⟩

set_option maxHeartbeats 400000 in
theorem num_short (g : Nat) (d : List UInt8) (a : Nat) (h : UInt8) (t : List UInt8) (w : World) (hR : Rd w g d a 0) (hdr : d.drop a = h :: t) (hd : d.length ≤ 9223372036854775807) (hh : h.toNat ≤ 8) (ht : t.length < h.toNat) :
    Calls Try.prog 34 #[.pointer (some ⟨g, 0, none⟩)] w fun e' w' => e' = .returned (.int .u64 0) ∧ Rd w' g d (a + 1) 10 ∧ w.grownBy w' (some g) := by
  have hlen : d.length - a = t.length + 1 := by rw [← List.length_drop, hdr]; rfl
  have HD : Hid ((d.drop a).take 1 = [h]) := by show _ = _; rw [hdr]; rfl
  clear hdr
  have hle : a + 1 ≤ d.length := by omega
  have hsh : d.length - (a + 1) < h.toNat := by omega
  clear hlen
  go_enter Try.func34, Try.ntmps34
  go_wp2_with fail
  refine (take_yes g d a 0 1 w hR (by omega) hd hle).mono ?_
  rintro e w1 ⟨rfl, hR1, hg1⟩
  rw [HD.out]
  obtain ⟨c0, c1, c2, f0, f1, f2⟩ := hR1.cells
  go_wp2_with fail
  refine (take_no g d (a + 1) 0 h.toNat w1 hR1 hle hd (by omega) hsh).mono ?_
  rintro e w2 ⟨rfl, hR2, hg2⟩
  go_wp2_with fail
  go_loop [5, 6, 39] (fun u _ i => i = .int .i64 0 ∧ u = .int .u64 0) (fun _ _ _ => 0)
  case atStart => exact ⟨rfl, rfl⟩
  case round =>
    obtain ⟨rfl, rfl⟩ := hrel
    go_wp2_with fail
    go_ret
    exact ⟨rfl, hR2, gb_trans hg1 hg2⟩

set_option maxHeartbeats 400000 in
theorem num_zero (g : Nat) (d : List UInt8) (a : Nat) (h : UInt8) (t : List UInt8) (w : World) (hR : Rd w g d a 0) (hdr : d.drop a = h :: t) (hd : d.length ≤ 9223372036854775807) (hh : h.toNat ≤ 8) (ht : h.toNat ≤ t.length) (s' : List UInt8) (hs : t.take h.toNat = 0 :: s') :
    Calls Try.prog 34 #[.pointer (some ⟨g, 0, none⟩)] w fun e' w' => e' = .returned (.int .u64 0) ∧ Rd w' g d (a + 1 + h.toNat) 11 ∧ w.grownBy w' (some g) := by
  have hlen : d.length - a = t.length + 1 := by rw [← List.length_drop, hdr]; rfl
  have HD : Hid ((d.drop a).take 1 = [h]) := by show _ = _; rw [hdr]; rfl
  have HS : Hid ((d.drop (a + 1)).take h.toNat = 0 :: s') := by show _ = _; rw [← List.drop_drop, hdr, List.drop_one, List.tail_cons, hs]
  clear hdr hs
  have hle : a + 1 ≤ d.length := by omega
  have hsh : a + 1 + h.toNat ≤ d.length := by omega
  clear hlen
  go_enter Try.func34, Try.ntmps34
  go_wp2_with fail
  refine (take_yes g d a 0 1 w hR (by omega) hd hle).mono ?_
  rintro e w1 ⟨rfl, hR1, hg1⟩
  rw [HD.out]
  obtain ⟨c0, c1, c2, f0, f1, f2⟩ := hR1.cells
  go_wp2_with fail
  refine (take_yes g d (a + 1) 0 h.toNat w1 hR1 hle hd hsh).mono ?_
  rintro e w2 ⟨rfl, hR2, hg2⟩
  rw [HS.out]
  obtain ⟨k0, k1, k2, j0, j1, j2⟩ := hR2.cells
  go_wp2_with fail
  go_ret
  exact ⟨rfl, hR2.set_ 2 _, gb_setCell (gb_trans hg1 hg2) (.inl rfl) _⟩

set_option maxHeartbeats 400000 in
theorem num_yes (g : Nat) (d : List UInt8) (a : Nat) (h : UInt8) (t : List UInt8) (w : World) (hR : Rd w g d a 0) (hdr : d.drop a = h :: t) (hd : d.length ≤ 9223372036854775807) (hh : h.toNat ≤ 8) (ht : h.toNat ≤ t.length) (s : List UInt8) (hs : t.take h.toNat = s) (h0 : s.head? ≠ some 0) :
    Calls Try.prog 34 #[.pointer (some ⟨g, 0, none⟩)] w fun e' w' => e' = .returned (.int .u64 (foldB s)) ∧ Rd w' g d (a + 1 + h.toNat) 0 ∧ w.grownBy w' (some g) := by
  have hlen : d.length - a = t.length + 1 := by rw [← List.length_drop, hdr]; rfl
  have HD : Hid ((d.drop a).take 1 = [h]) := by show _ = _; rw [hdr]; rfl
  have HS : Hid ((d.drop (a + 1)).take h.toNat = s) := by show _ = _; rw [← List.drop_drop, hdr, List.drop_one, List.tail_cons, hs]
  have HL : Hid (s.length = h.toNat) := by show _ = _; rw [← hs, List.length_take]; omega
  clear hdr hs
  have hle : a + 1 ≤ d.length := by omega
  have hsh : a + 1 + h.toNat ≤ d.length := by omega
  have hl8 : s.length ≤ 8 := by rw [HL.out]; exact hh
  clear hlen
  have HB : Hid ((s = [] ∨ ∃ c s', s = c :: s' ∧ c ≠ 0)) := by
    cases s with
    | nil => exact .inl rfl
    | cons c s' => exact .inr ⟨c, s', rfl, fun e => h0 (by rw [e]; rfl)⟩
  clear h0
  go_enter Try.func34, Try.ntmps34
  go_wp2_with fail
  refine (take_yes g d a 0 1 w hR (by omega) hd hle).mono ?_
  rintro e w1 ⟨rfl, hR1, hg1⟩
  rw [HD.out]
  obtain ⟨c0, c1, c2, f0, f1, f2⟩ := hR1.cells
  go_wp2_with fail
  refine (take_yes g d (a + 1) 0 h.toNat w1 hR1 hle hd hsh).mono ?_
  rintro e w2 ⟨rfl, hR2, hg2⟩
  rw [HS.out]
  have hw2 := gb_trans hg1 hg2
  clear hg1 hg2 hR1 c0 c1 c2 f0 f1 f2 hR
  by_cases hp : 0 < s.length
  · have hc0 : (((s[0]'hp).toNat : Int) == 0) = false := by
      rcases HB.out with e | ⟨c, s', rfl, hc⟩
      · rw [e] at hp; exact absurd hp (by simp)
      · have : c.toNat ≠ 0 := fun e => hc (UInt8.toNat_inj.1 (by simpa using e))
        simp; omega
    have hem : s.isEmpty = false := by
      rcases HB.out with e | ⟨c, s', rfl, hc⟩
      · rw [e] at hp; exact absurd hp (by simp)
      · rfl
    clear HB
    go_wp2_with fail
    go_loop [5, 6, 39] (fun u _ i => ∃ k : Nat, k ≤ s.length ∧ i = .int .i64 k ∧ u = .int .u64 (foldB (s.take k))) (fun _ _ i => s.length - (intOf i).toNat)
    case atStart => exact ⟨0, Nat.zero_le _, rfl, rfl⟩
    case round =>
      obtain ⟨k, hk, rfl, rfl⟩ := hrel
      by_cases hlt : k < s.length
      · have HK := Lib.hid (or_byte (foldB (s.take k)) (s[k]'hlt).toNat (foldB_lt8 (by omega)) (s[k]'hlt).toNat_lt)
        have HT : Hid (s.take (k + 1) = s.take k ++ [s[k]'hlt]) := List.take_succ_eq_append_getElem hlt
        go_wp2_with fail
        refine ⟨⟨k + 1, by omega, by go_num, ?_⟩, by simp [intOf]; omega⟩
        rw [HT.out, foldB_snoc, HK.out]
      · obtain rfl : k = s.length := by omega
        have e : s.take s.length = s := List.take_of_length_le (Nat.le_refl _)
        rw [e]
        clear e
        go_wp2_with fail
        go_ret
        exact ⟨rfl, hR2, hw2⟩
  · obtain rfl : s = [] := List.length_eq_zero_iff.1 (by omega)
    clear HB hl8 HL
    go_wp2_with fail
    go_loop [5, 6, 39] (fun u _ i => i = .int .i64 0 ∧ u = .int .u64 0) (fun _ _ _ => 0)
    case atStart => exact ⟨rfl, rfl⟩
    case round =>
      obtain ⟨rfl, rfl⟩ := hrel
      go_wp2_with fail
      go_ret
      exact ⟨rfl, hR2, hw2⟩
end Go.Proofs.Ytnfbakldpjmbnaa.Cd
