/- The gaps of one range, in plain words. -/
import Derived.Test.YtkkmleglaljacaaPw
namespace Go.Proofs.Ytkkmleglaljacaa

def gapOne (g : Rg) : Int → List Rg → List Rg
  | a, [] => if a ≤ g.t then [⟨g.w, a, g.t⟩] else []
  | a, y :: r => if y.w ≠ g.w ∨ y.t < a ∨ y.f > g.t then gapOne g a r else (if a < y.f then [⟨g.w, a, y.f - 1⟩] else []) ++ gapOne g (y.t + 1) r
theorem gap_cov (g : Rg) : ∀ (l : List Rg) (a : Int), Canon l → ∀ w n, cov (gapOne g a l) w n ↔ g.w = w ∧ a ≤ n ∧ n ≤ g.t ∧ ¬ cov l w n
  | [], a, _, w, n => by
    unfold gapOne
    split
    · simp [cov_cons, cov_nil]
    · simp [cov_nil]
      omega
  | y :: r, a, hc, w, n => by
    rw [gapOne]
    split
    · rename_i hs
      rw [gap_cov g r a hc.tail, cov_cons]
      constructor
      · rintro ⟨h1, h2, h3, h4⟩
        exact ⟨h1, h2, h3, fun h => by rcases h with h | h; omega; exact h4 h⟩
      · rintro ⟨h1, h2, h3, h4⟩
        exact ⟨h1, h2, h3, fun h => h4 (.inr h)⟩
    · rename_i hs
      have hy := hc.2 y (by simp)
      rw [cov_append, gap_cov g r (y.t + 1) hc.tail, cov_cons]
      constructor
      · rintro (h | ⟨h1, h2, h3, h4⟩)
        · split at h
          · rcases cov_cons.1 h with h | h
            · simp only at h
              exact ⟨by omega, by omega, by omega, fun h' => by
                rcases h' with h' | h'
                · omega
                · have := tail_far hc h'; omega⟩
            · exact (cov_nil _ _ h).elim
          · exact (cov_nil _ _ h).elim
        · exact ⟨h1, by omega, h3, fun h => by rcases h with h | h; omega; exact h4 h⟩
      · rintro ⟨h1, h2, h3, h4⟩
        by_cases c : n < y.f
        · left
          rw [if_pos (by omega)]
          exact cov_cons.2 (.inl ⟨h1, h2, by simp only; omega⟩)
        · right
          refine ⟨h1, ?_, h3, fun h => h4 (.inr h)⟩
          have : ¬ (y.w = w ∧ y.f ≤ n ∧ n ≤ y.t) := fun h => h4 (.inl h)
          omega
end Go.Proofs.Ytkkmleglaljacaa
