/- The law on one changed byte. -/
import Derived.Test.YtanplhmnmicdaaaC
import Derived.Laws.IdiomStrings
namespace Go.Proofs.Ytanplhmnmicdaaa
open Go.RowKit
attribute [local go_sem] bs_size bs_getElem bs_list bs_append

set_option maxHeartbeats 400000 in
theorem law_told (l : List UInt8) (at_ : Int) (c : UInt8) (w : World) (hl : l.length ≤ 9223372036854775807) (hat : I64 at_) :
    Calls Try.prog 6 #[.string (bs l), .int .i64 at_, .int .u8 (c.toNat : Int)] w fun e w' => e = .returned (.bool true) ∧ Below w.heap.size w w' := by
  rcases Nat.eq_zero_or_pos l.length with h0 | h0
  · have hl0 : l.length = 0 := h0
    go_enter Try.func6, Try.ntmps6
    go_wp2_with fail
    refine (awake_any _).mono ?_
    rintro e w1 ⟨rfl, hb⟩
    go_wp2_with fail
    go_ret
    exact ⟨rfl, hb⟩
  have hne : (((l.length : Nat) : Int) == 0) = false := beq_eq_false_iff_ne.2 (by omega)
  rcases Nat.lt_or_ge 10000 l.length with hlt | hge
  · have hgt : decide (((l.length : Nat) : Int) > 10000) = true := decide_eq_true (by omega)
    go_enter Try.func6, Try.ntmps6
    go_wp2_with fail
    refine (awake_any _).mono ?_
    rintro e w1 ⟨rfl, hb⟩
    go_wp2_with fail
    go_ret
    exact ⟨rfl, hb⟩
  have hgt : decide (((l.length : Nat) : Int) > 10000) = false := decide_eq_false (by omega)
  obtain ⟨n, hn, hidx⟩ : ∃ n : Nat, n < l.length ∧ (wrap64 (at_.tmod ↑l.length + ↑l.length)).tmod ↑l.length = (n : Int) := by
    have h1 := Int.tmod_lt_of_pos at_ (b := (l.length : Int)) (by omega)
    have h2 := Int.lt_tmod_of_pos at_ (b := (l.length : Int)) (by omega)
    rw [show wrap64 (at_.tmod ↑l.length + ↑l.length) = at_.tmod ↑l.length + ↑l.length from by unfold wrap64; omega]
    have h3 := Int.tmod_lt_of_pos (at_.tmod ↑l.length + ↑l.length) (b := (l.length : Int)) (by omega)
    have h4 := Int.tmod_nonneg (l.length : Int) (a := at_.tmod ↑l.length + ↑l.length) (by omega)
    exact ⟨((at_.tmod ↑l.length + ↑l.length).tmod ↑l.length).toNat, by omega, by omega⟩
  have hconv := run_bytes_of_string (P := Try.prog) w 9 28 5 (bs l) Try.underlying9 Try.underlying28 Try.underlying5
  rw [bs_size] at hconv
  generalize grownCap w l.length 0 5 = cap at *
  obtain ⟨w1, hw1⟩ : ∃ w1, w1 = w.drew.alloc (.cells (bytesRow (bs l) cap) 5 ((bytesRow (bs l) cap).size, (bytesRow (bs l) cap).size + 1)) := ⟨_, rfl⟩
  have hc1 : ∀ j (hj : j < l.length), w1.cell? ⟨w.heap.size, j, none⟩ = some (.int .u8 (l[j].toNat : Int)) := by
    intro j hj
    rw [hw1]
    refine (World.cell?_alloc_mark w.drew _ 5 _ j).trans ?_
    rw [bytesRow_at _ _ _ (by simpa [bs] using hj)]
    rfl
  have hf1 : w1.frozen? ⟨w.heap.size, n, none⟩ = false := by
    rw [hw1]
    refine (World.frozen?_alloc_mark w.drew _ 5 _ _ n).trans ?_
    have : l.length ≤ (bytesRow (bs l) cap).size := by simp [bytesRow, bs]
    simp; omega
  have hb1 : Below w.heap.size w w1 := by rw [hw1]; exact (Below.refl _ w).drew.alloc (Nat.le_refl _) _
  rw [← hw1] at hconv
  clear hw1
  have hcn := hc1 n hn
  have hadd : ∀ j, (Addr.mk w.heap.size 0 none).add j = ⟨w.heap.size, j, none⟩ := fun j => by unfold Addr.add; split <;> simp_all
  have hback := run_convert_bytes_back (P := Try.prog) (w1.setCell ⟨w.heap.size, n, none⟩ (.int .u8 (c.toNat : Int))) 28 9 5 ⟨w.heap.size, 0, none⟩ cap (l.set n c) Try.underlying28 Try.underlying5 Try.underlying9 (fun j hj => by
    rw [hadd]
    have hj' : j < l.length := by simpa using hj
    by_cases e : n = j
    · subst e
      rw [World.cell?_setCell_same _ _ _ hcn]
      simp
    · rw [World.cell?_setCell_other _ _ _ _ (by simp)]
      rw [hc1 j hj', List.getElem_set_ne e])
  rw [List.length_set] at hback
  replace hback : (convert 28 9 (.slice (some ⟨w.heap.size, 0, none⟩) l.length cap)).run Try.prog (w1.setCell ⟨w.heap.size, n, none⟩ (.int .u8 (c.toNat : Int))) = .ok (.string (bs (l.set n c))) (w1.setCell ⟨w.heap.size, n, none⟩ (.int .u8 (c.toNat : Int))) := hback
  have hb2 : Below w.heap.size w (w1.setCell ⟨w.heap.size, n, none⟩ (.int .u8 (c.toNat : Int))) := hb1.setCell (Nat.le_refl _) _
  have hls : (l.set n c).length ≤ 9223372036854775807 := by simpa using hl
  have HLS := Lib.hid hls
  have HC := Lib.hid hc1
  have HT := told l n hn c
  generalize l[n] = d at *
  generalize hss : l.set n c = ls at *
  clear hc1 hss hls
  obtain ⟨r, hr1, hr2⟩ : ∃ r, (((d.toNat : Nat) : Int) == ((c.toNat : Nat) : Int)) = r ∧ (((sumL ls : Nat) : Int) == ((sumL l : Nat) : Int)) = r := by
    refine ⟨_, rfl, ?_⟩
    rw [Bool.eq_iff_iff]
    simp only [beq_iff_eq, Int.ofNat_inj]
    rw [HT]
    exact UInt8.toNat_inj.symm
  clear HT
  go_enter Try.func6, Try.ntmps6
  go_wp2_with fail
  refine (sum_c ls HLS.out _).mono ?_
  rintro e w2 ⟨rfl, hb3⟩
  have hb3 := hb2.trans (hb3.mono hb2.size)
  go_wp2_with fail
  refine (sum_c l hl _).mono ?_
  rintro e w3 ⟨rfl, hb4⟩
  have hb4 := hb3.trans (hb4.mono hb3.size)
  go_wp2_with fail
  refine (awake_any _).mono ?_
  rintro e w4 ⟨rfl, hb5⟩
  have hb5 := hb4.trans (hb5.mono hb4.size)
  go_wp2_with fail
  go_ret
  exact ⟨rfl, hb5⟩
end Go.Proofs.Ytanplhmnmicdaaa
