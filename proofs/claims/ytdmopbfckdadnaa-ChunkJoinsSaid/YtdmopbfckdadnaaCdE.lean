/- The walks of the document's reader. -/
import Derived.Test.YtdmopbfckdadnaaCdB
namespace Go.Proofs.Ytdmopbfckdadnaa.Cd
open Go.RowKit
attribute [local go_sem] bs_size bs_getElem bs_list

abbrev Rr (w : World) (g : Nat) (s : List UInt8) (e : Int) : Prop := Blk w g 55 #[.string (bs s), .int .i64 e]
theorem Rr.cells {w : World} {g : Nat} {s : List UInt8} {e : Int} (h : Rr w g s e) :
    w.cell? ⟨g, 0, none⟩ = some (.string (bs s)) ∧ w.cell? ⟨g, 1, none⟩ = some (.int .i64 e) ∧ w.frozen? ⟨g, 0, none⟩ = false ∧ w.frozen? ⟨g, 1, none⟩ = false :=
  ⟨h.cell 0, h.cell 1, h.frozen 0, h.frozen 1⟩

set_option maxHeartbeats 400000 in
theorem rNum_err (g : Nat) (s : List UInt8) (e : Int) (w : World) (hR : Rr w g s e) (he : e ≠ 0) :
    Calls Try.prog 28 #[.pointer (some ⟨g, 0, none⟩)] w fun e' w' => e' = .returned (.int .i64 0) ∧ Rr w' g s e ∧ w.grownBy w' (some g) := by
  obtain ⟨c0, c1, f0, f1⟩ := hR.cells
  have hne : (e != 0) = true := by simp [he]
  go_enter Try.func28, Try.ntmps28
  go_wp2_with fail
  go_ret
  exact ⟨rfl, hR, gb_refl _ _⟩

set_option maxHeartbeats 400000 in
theorem rNum_end (g : Nat) (w : World) (hR : Rr w g [] 0) :
    Calls Try.prog 28 #[.pointer (some ⟨g, 0, none⟩)] w fun e' w' => e' = .returned (.int .i64 0) ∧ Rr w' g [] 10 ∧ w.grownBy w' (some g) := by
  obtain ⟨c0, c1, f0, f1⟩ := hR.cells
  go_enter Try.func28, Try.ntmps28
  go_wp2_with fail
  go_ret
  exact ⟨rfl, hR.set_ 1 _, gb_setCell (gb_refl _ _) (.inl rfl) _⟩

set_option maxHeartbeats 400000 in
theorem rNum_big (g : Nat) (h : UInt8) (t : List UInt8) (w : World) (hR : Rr w g (h :: t) 0) (hl : t.length < 9223372036854775807) (hh : 8 < h.toNat) :
    Calls Try.prog 28 #[.pointer (some ⟨g, 0, none⟩)] w fun e' w' => e' = .returned (.int .i64 0) ∧ Rr w' g (h :: t) 11 ∧ w.grownBy w' (some g) := by
  obtain ⟨c0, c1, f0, f1⟩ := hR.cells
  have hne : (((t.length : Int) + 1) == 0) = false := by simp; omega
  have hb256 : h.toNat < 256 := h.toNat_lt
  go_enter Try.func28, Try.ntmps28
  go_wp2_with fail
  go_ret
  exact ⟨rfl, hR.set_ 1 _, gb_setCell (gb_refl _ _) (.inl rfl) _⟩

set_option maxHeartbeats 400000 in
theorem rNum_short (g : Nat) (h : UInt8) (t : List UInt8) (w : World) (hR : Rr w g (h :: t) 0) (hl : t.length < 9223372036854775807) (hh : h.toNat ≤ 8) (ht : t.length < h.toNat) :
    Calls Try.prog 28 #[.pointer (some ⟨g, 0, none⟩)] w fun e' w' => e' = .returned (.int .i64 0) ∧ Rr w' g (h :: t) 10 ∧ w.grownBy w' (some g) := by
  obtain ⟨c0, c1, f0, f1⟩ := hR.cells
  have hne : (((t.length : Int) + 1) == 0) = false := by simp; omega
  go_enter Try.func28, Try.ntmps28
  go_wp2_with fail
  go_ret
  exact ⟨rfl, hR.set_ 1 _, gb_setCell (gb_refl _ _) (.inl rfl) _⟩

set_option maxHeartbeats 400000 in
theorem rNum_zero (g : Nat) (h : UInt8) (t : List UInt8) (w : World) (hR : Rr w g (h :: 0 :: t) 0) (hl : t.length < 9223372036854775806) (hh : h.toNat ≤ 8) (h0 : 0 < h.toNat) (ht : h.toNat ≤ t.length + 1) :
    Calls Try.prog 28 #[.pointer (some ⟨g, 0, none⟩)] w fun e' w' => e' = .returned (.int .i64 0) ∧ Rr w' g (h :: 0 :: t) 11 ∧ w.grownBy w' (some g) := by
  obtain ⟨c0, c1, f0, f1⟩ := hR.cells
  have hne : (((t.length : Int) + 1 + 1) == 0) = false := by simp; omega
  have hp : decide ((0 : Int) < h.toNat) = true := by simp; omega
  go_enter Try.func28, Try.ntmps28
  go_wp2_with fail
  go_ret
  exact ⟨rfl, hR.set_ 1 _, gb_setCell (gb_refl _ _) (.inl rfl) _⟩

set_option maxHeartbeats 400000 in
theorem rNum_nought (g : Nat) (h : UInt8) (t : List UInt8) (w : World) (hR : Rr w g (h :: t) 0) (hl : t.length < 9223372036854775807) (hh : h.toNat = 0) :
    Calls Try.prog 28 #[.pointer (some ⟨g, 0, none⟩)] w fun e' w' => e' = .returned (.int .i64 0) ∧ Rr w' g t 0 ∧ w.grownBy w' (some g) := by
  obtain ⟨c0, c1, f0, f1⟩ := hR.cells
  have hne : (((t.length : Int) + 1) == 0) = false := by simp; omega
  have H1 := Lib.hid (bs_extract (h :: t) 1 (t.length + 1))
  go_enter Try.func28, Try.ntmps28
  go_wp2_with fail
  go_loop [4, 5] (fun u i => i = .int .i64 1 ∧ u = .int .u64 0) (fun _ _ => 0)
  case atStart => exact ⟨rfl, rfl⟩
  case round =>
    obtain ⟨rfl, rfl⟩ := hrel
    go_wp2_with fail
    go_ret
    refine ⟨rfl, ?_, gb_setCell (gb_refl _ _) (.inl rfl) _⟩
    have hv : (bs (h :: t)).extract 1 (t.length + 1) = bs t := by rw [H1.out]; simp
    rw [hv]
    exact hR.set_ 0 _

set_option maxHeartbeats 400000 in
theorem rNum_yes (g : Nat) (h : UInt8) (t : List UInt8) (w : World) (hR : Rr w g (h :: t) 0) (hl : t.length < 9223372036854775807) (hh : h.toNat ≤ 8) (h0 : 0 < h.toNat) (ht : h.toNat ≤ t.length) (hz : ∀ c t', t = c :: t' → c ≠ 0) :
    Calls Try.prog 28 #[.pointer (some ⟨g, 0, none⟩)] w fun e' w' => e' = .returned (.int .i64 (toI (foldB (t.take h.toNat)))) ∧ Rr w' g (t.drop h.toNat) 0 ∧ w.grownBy w' (some g) := by
  obtain ⟨c0, c1, f0, f1⟩ := hR.cells
  have hne : (((t.length : Int) + 1) == 0) = false := by simp; omega
  have hp : decide ((0 : Int) < h.toNat) = true := by simp; omega
  have hp0 : 0 < t.length := by omega
  have hc0 : (((t[0]'hp0).toNat : Int) == 0) = false := by
    cases t with
    | nil => simp at hp0
    | cons c t' =>
      have : c.toNat ≠ 0 := fun e => hz c t' rfl (UInt8.toNat_inj.1 (by simpa using e))
      simp; omega
  have H1 := Lib.hid (bs_extract (h :: t) (1 + h.toNat) (t.length + 1))
  have HZ := Lib.hid hz
  clear hz
  go_enter Try.func28, Try.ntmps28
  go_wp2_with fail
  go_loop [4, 5] (fun u i => ∃ k : Nat, k ≤ h.toNat ∧ i = .int .i64 ((k : Int) + 1) ∧ u = .int .u64 (foldB (t.take k))) (fun _ i => h.toNat + 1 - (intOf i).toNat)
  case atStart => exact ⟨0, Nat.zero_le _, rfl, rfl⟩
  case round =>
    obtain ⟨k, hk, rfl, rfl⟩ := hrel
    by_cases hlt : k < h.toNat
    · have hb := foldB_lt8 (l := t) (k := k) (by omega)
      have hkt : k < t.length := by omega
      have HT : Hid (t.take (k + 1) = t.take k ++ [t[k]'hkt]) := List.take_succ_eq_append_getElem hkt
      have hcb := (t[k]'hkt).toNat_lt
      go_wp2_with fail
      refine ⟨⟨k + 1, by omega, congrArg (Value.int .i64) (by omega), ?_⟩, by simp [intOf]; omega⟩
      rw [HT.out, foldB_snoc]
      exact congrArg (Value.int .u64) (by omega)
    · obtain rfl : k = h.toNat := by omega
      go_wp2_with fail
      go_ret
      refine ⟨ret_int (by unfold toI wrap64; rfl), ?_, gb_setCell (gb_refl _ _) (.inl rfl) _⟩
      have hv : (bs (h :: t)).extract (1 + h.toNat) (t.length + 1) = bs (t.drop h.toNat) := by
        rw [H1.out, List.take_of_length_le (by simp), Nat.add_comm 1, List.drop_succ_cons]
      rw [hv]
      exact hR.set_ 0 _

theorem toI_zero : toI 0 = 0 := by unfold toI; omega
theorem foldB_nil : foldB [] = 0 := rfl
theorem rNum_any (g : Nat) (s : List UInt8) (e : Int) (w : World) (hR : Rr w g s e) (hl : s.length ≤ 9223372036854775806) :
    Calls Try.prog 28 #[.pointer (some ⟨g, 0, none⟩)] w fun e' w' => e' = .returned (.int .i64 (toI (rnumS s e).2.2)) ∧ Rr w' g (rnumS s e).1 (rnumS s e).2.1 ∧ w.grownBy w' (some g) := by
  unfold rnumS
  by_cases he : e = 0
  · subst he
    rw [if_pos rfl]
    cases s with
    | nil =>
      simp only [rnumR, toI_zero]
      exact rNum_end g w hR
    | cons h t =>
      simp only [List.length_cons] at hl
      simp only [rnumR]
      by_cases h1 : 8 < h.toNat
      · rw [if_pos h1]
        simp only [toI_zero]
        exact rNum_big g h t w hR (by omega) h1
      rw [if_neg h1]
      by_cases h2 : t.length < h.toNat
      · rw [if_pos h2]
        simp only [toI_zero]
        exact rNum_short g h t w hR (by omega) (by omega) h2
      rw [if_neg h2]
      by_cases h3 : h.toNat = 0
      · rw [h3, if_neg (by simp)]
        simp only [List.take_zero, List.drop_zero, foldB_nil, toI_zero]
        exact rNum_nought g h t w hR (by omega) h3
      cases t with
      | nil => simp at h2; omega
      | cons c t =>
        have ht : ((c :: t).take h.toNat).head? = some c := by
          obtain ⟨m, hm⟩ : ∃ m, h.toNat = m + 1 := ⟨h.toNat - 1, by omega⟩
          rw [hm]; rfl
        by_cases hc : c = 0
        · subst hc
          rw [if_pos ht]
          simp only [toI_zero]
          exact rNum_zero g h t w hR (by simp at hl; omega) (by omega) (by omega) (by simp at h2; omega)
        · rw [if_neg (by rw [ht]; intro e; cases e; exact hc rfl)]
          exact rNum_yes g h (c :: t) w hR (by omega) (by omega) (by omega) (by omega) (fun c' t' e => by cases e; exact hc)
  · rw [if_neg he]
    simp only [toI_zero]
    exact rNum_err g s e w hR he

theorem rnumR_lt (s : List UInt8) : (rnumR s).2.2 < 18446744073709551616 := by
  have h := (rnum_num s 0).2.1
  rw [List.drop_zero] at h
  rw [h]; exact numR_lt s 0

end Go.Proofs.Ytdmopbfckdadnaa.Cd
