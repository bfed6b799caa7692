/- The walks of clock's and its reference's leaf functions: what each call returns, and that nothing that was there turns. -/
import Derived.Test.YtdoghihjanlgpaaRows
import Derived.Test.YtdoghihjanlgpaaWords
import Derived.Outline
import Derived.Deep.QuietTactic
import Derived.BigQuiet
namespace Go.Proofs.Ytdoghihjanlgpaa
open Go.RowKit

/-! ### What the functions come to -/
def lessB (a b c d : Int) : Bool := decide (a < c ∨ a = c ∧ b < d)
def rightE (c w : Int) : Int := if c < 1 ∨ 1099511627776 < c ∨ w < 0 ∨ 15 ≤ w then 20 else 0
def maxC (xs : List (Int × Int)) : Int := xs.foldl (fun m x => max m x.1) 0
def nextR (who : Int) (xs : List (Int × Int)) : Int × Int × Int :=
  if who < 0 ∨ 15 ≤ who then (0, 0, 1) else if 1099511627776 ≤ maxC xs then (0, 0, 21) else (maxC xs + 1, who, 0)
def atL (xs : List Int) (k : Nat) : Int := if k < xs.length then max (nth xs k) 0 else 0

theorem take_snocS {xs : List (Int × Int)} {k : Nat} (h : k < xs.length) : xs.take (k + 1) = xs.take k ++ [nthS xs k] := by
  rw [List.take_succ_eq_append_getElem h, nthS_lt h]
theorem maxC_snoc (xs : List (Int × Int)) (x : Int × Int) : maxC (xs ++ [x]) = max (maxC xs) x.1 := by simp [maxC]
theorem maxC_nonneg (xs : List (Int × Int)) : 0 ≤ maxC xs := by
  have h : ∀ (l : List (Int × Int)) (m : Int), 0 ≤ m → 0 ≤ l.foldl (fun m x => max m x.1) m := by
    intro l; induction l with
    | nil => intro m hm; exact hm
    | cons a l ih => intro m hm; exact ih _ (by simp only []; omega)
  exact h _ _ (Int.le_refl _)

set_option maxHeartbeats 400000 in
theorem less_any (a b c d : Int) (w : World) :
    Calls Try.prog 23 #[.agg #[.int .i64 a, .int .i64 b], .agg #[.int .i64 c, .int .i64 d]] w fun e w' => e = .returned (.bool (lessB a b c d)) ∧ Below w.heap.size w w' := by
  by_cases h : a = c
  · subst h
    go_enter Try.func23, Try.ntmps23
    go_wp2
    go_ret
    exact ⟨ret_bool (by simp [lessB]), ((Below.refl _ _).alloc (Nat.le_refl _) _).alloc (by simp) _⟩
  · have hb : (a != c) = true := by simp [h]
    go_enter Try.func23, Try.ntmps23
    go_wp2
    go_ret
    exact ⟨ret_bool (by simp [lessB, h]), ((Below.refl _ _).alloc (Nat.le_refl _) _).alloc (by simp) _⟩

set_option maxHeartbeats 400000 in
theorem rless_any (a b c d : Int) (w : World) :
    Calls Try.prog 24 #[.agg #[.int .i64 a, .int .i64 b], .agg #[.int .i64 c, .int .i64 d]] w fun e w' => e = .returned (.bool (lessB a b c d)) ∧ Below w.heap.size w w' := by
  by_cases h : a < c
  · have h2 : decide (a < c) = true := by simp [h]
    go_enter Try.func24, Try.ntmps24
    go_wp2
    go_ret
    exact ⟨ret_bool (by simp [lessB, h]), ((Below.refl _ _).alloc (Nat.le_refl _) _).alloc (by simp) _⟩
  · by_cases h3 : a = c
    · subst h3
      go_enter Try.func24, Try.ntmps24
      go_wp2
      go_ret
      exact ⟨ret_bool (by simp [lessB]), ((Below.refl _ _).alloc (Nat.le_refl _) _).alloc (by simp) _⟩
    · have h4 : decide (a < c) = false := by simp [h]
      have hb : (a == c) = false := by simp [h3]
      go_enter Try.func24, Try.ntmps24
      go_wp2
      go_ret
      exact ⟨ret_bool (by simp [lessB, h3]; omega), ((Below.refl _ _).alloc (Nat.le_refl _) _).alloc (by simp) _⟩

set_option maxHeartbeats 400000 in
theorem right_any (a b : Int) (w : World) :
    Calls Try.prog 25 #[.agg #[.int .i64 a, .int .i64 b]] w fun e w' => e = .returned (.int .i64 (rightE a b)) ∧ Below w.heap.size w w' := by
  go_enter Try.func25, Try.ntmps25
  go_wp2
  all_goals
    go_ret
    exact ⟨ret_int (by unfold rightE; first | rw [if_pos (by omega)] | rw [if_neg (by omega)]), (Below.refl _ _).alloc (Nat.le_refl _) _⟩

set_option maxHeartbeats 400000 in
theorem rright_any (a b : Int) (w : World) :
    Calls Try.prog 26 #[.agg #[.int .i64 a, .int .i64 b]] w fun e w' => e = .returned (.int .i64 (rightE a b)) ∧ Below w.heap.size w w' := by
  go_enter Try.func26, Try.ntmps26
  go_wp2
  all_goals
    go_ret
    exact ⟨ret_int (by unfold rightE; first | rw [if_pos (by omega)] | rw [if_neg (by omega)]), (Below.refl _ _).alloc (Nat.le_refl _) _⟩

set_option maxHeartbeats 400000 in
theorem at_any (A : Option Addr) (n c : Nat) (k : Nat) (xs : List Int) (w : World) (hx : Sl w 1 IntC A n c xs) (hk : k ≤ 9223372036854775807) :
    Calls Try.prog 30 #[.slice A n c, .int .i64 k] w fun e w' => e = .returned (.int .i64 (atL xs k)) ∧ w = w' := by
  have hcap := And.intro hx.le hx.max
  have hl := hx.len
  by_cases h : k < n
  · obtain ⟨b, off, rfl, _, hcell, _⟩ := hx.int_at h
    have HL := Lib.hid hl
    clear hl
    go_enter Try.func30, Try.ntmps30
    go_wp2
    all_goals
      go_ret
      exact ⟨ret_int (by unfold atL; rw [if_pos (by rw [HL.out]; omega)]; omega), rfl⟩
  · have h' : n ≤ k := by omega
    have HL := Lib.hid hl
    clear hl
    go_enter Try.func30, Try.ntmps30
    go_wp2
    go_ret
    exact ⟨ret_int (by unfold atL; rw [if_neg (by rw [HL.out]; omega)]), rfl⟩

set_option maxHeartbeats 400000 in
theorem rat_any (A : Option Addr) (n c : Nat) (k : Nat) (xs : List Int) (w : World) (hx : Sl w 1 IntC A n c xs) (hk : k ≤ 9223372036854775807) :
    Calls Try.prog 32 #[.slice A n c, .int .i64 k] w fun e w' => e = .returned (.int .i64 (atL xs k)) ∧ w = w' := by
  have hcap := And.intro hx.le hx.max
  have hl := hx.len
  have hd : decide ((k : Int) < 0) = false := by simp
  by_cases h : k < n
  · obtain ⟨b, off, rfl, _, hcell, _⟩ := hx.int_at h
    have HL := Lib.hid hl
    clear hl
    go_enter Try.func32, Try.ntmps32
    go_wp2
    all_goals
      go_ret
      exact ⟨ret_int (by unfold atL; rw [if_pos (by rw [HL.out]; omega)]; omega), rfl⟩
  · have h' : n ≤ k := by omega
    have HL := Lib.hid hl
    clear hl
    go_enter Try.func32, Try.ntmps32
    go_wp2
    go_ret
    exact ⟨ret_int (by unfold atL; rw [if_neg (by rw [HL.out]; omega)]), rfl⟩
end Go.Proofs.Ytdoghihjanlgpaa
