/- The document's 'with', in plain words. -/
import Derived.Test.YtkkmleglaljacaaPl
namespace Go.Proofs.Ytkkmleglaljacaa

def Touch (x g : Rg) : Prop := x.w = g.w ∧ x.f ≤ g.t + 1 ∧ g.f ≤ x.t + 1
instance (x g : Rg) : Decidable (Touch x g) := by unfold Touch; infer_instance
def Later (x g : Rg) : Prop := x.w > g.w ∨ (x.w = g.w ∧ x.f > g.t)
instance (x g : Rg) : Decidable (Later x g) := by unfold Later; infer_instance
def both (g x : Rg) : Rg := ⟨g.w, min g.f x.f, max g.t x.t⟩
def withL : List Rg → Rg → Bool → List Rg
  | [], g, put => if put then [] else [g]
  | x :: r, g, put => if Touch x g then withL r (both g x) put else if put = false ∧ Later x g then g :: x :: withL r g true else x :: withL r g put
theorem with_put : ∀ {l : List Rg} {g : Rg}, (∀ x ∈ l, Apart g x) → withL l g true = l
  | [], _, _ => rfl
  | x :: r, g, h => by
    have hx := h x (by simp)
    have ht : ¬ Touch x g := by unfold Touch; unfold Apart at hx; omega
    rw [withL, if_neg ht, if_neg (by simp), with_put (fun y hy => h y (List.mem_cons_of_mem _ hy))]
theorem with_far : ∀ {l : List Rg} {g y : Rg}, Canon l → (∀ z ∈ l, Apart y z) → Apart y g → ∀ z ∈ withL l g false, Apart y z
  | [], g, y, _, _, hg, z, hz => by
    have : z = g := by simpa [withL] using hz
    rw [this]; exact hg
  | x :: r, g, y, hc, h, hg, z, hz => by
    have hx := h x (by simp)
    have hr : ∀ z ∈ r, Apart y z := fun z hz => h z (List.mem_cons_of_mem _ hz)
    rw [withL] at hz
    split at hz
    · exact with_far hc.tail hr (by rename_i ht; unfold Touch at ht; unfold Apart both at *; simp only; omega) z hz
    · rename_i ht
      split at hz
      · rename_i hl
        have hgx : ∀ q ∈ r, Apart g q := fun q hq => by
          have h1 := (List.pairwise_cons.1 hc.1).1 q hq
          have h2 := hc.2 x (by simp)
          have h3 := hl.2
          unfold Later at h3
          unfold Touch at ht
          unfold Apart at *
          omega
        rw [with_put hgx] at hz
        rcases List.mem_cons.1 hz with rfl | hz
        · exact hg
        · exact h z hz
      · rcases List.mem_cons.1 hz with rfl | hz
        · exact hx
        · exact with_far hc.tail hr hg z hz
theorem with_canon : ∀ {l : List Rg} {g : Rg}, Canon l → g.f ≤ g.t → Canon (withL l g false) ∧ ∀ w n, cov (withL l g false) w n ↔ cov l w n ∨ (g.w = w ∧ g.f ≤ n ∧ n ≤ g.t)
  | [], g, _, hg => ⟨⟨by simp [withL], by simpa [withL] using hg⟩, fun w n => by simp [withL, cov_cons, cov_nil]⟩
  | x :: r, g, hc, hg => by
    have hx := hc.2 x (by simp)
    have hp := (List.pairwise_cons.1 hc.1).1
    rw [withL]
    split
    · rename_i ht
      unfold Touch at ht
      obtain ⟨h1, h2⟩ := with_canon (g := both g x) hc.tail (by unfold both; simp only; omega)
      refine ⟨h1, fun w n => ?_⟩
      rw [h2, cov_cons]
      unfold both
      simp only
      constructor
      · rintro (h | h)
        · exact .inl (.inr h)
        · by_cases c : x.f ≤ n ∧ n ≤ x.t
          · exact .inl (.inl (by omega))
          · exact .inr (by omega)
      · rintro ((h | h) | h)
        · exact .inr (by omega)
        · exact .inl h
        · exact .inr (by omega)
    · rename_i ht
      split
      · rename_i hl
        have hgx : ∀ q ∈ x :: r, Apart g q := fun q hq => by
          have h3 := hl.2
          unfold Later at h3
          unfold Touch at ht
          rcases List.mem_cons.1 hq with rfl | hq
          · unfold Apart; omega
          · have h1 := hp q hq
            unfold Apart at *
            omega
        rw [with_put (fun q hq => hgx q (List.mem_cons_of_mem _ hq))]
        refine ⟨⟨List.pairwise_cons.2 ⟨hgx, hc.1⟩, fun q hq => ?_⟩, fun w n => ?_⟩
        · rcases List.mem_cons.1 hq with rfl | hq
          · exact hg
          · exact hc.2 q hq
        · rw [cov_cons]
          constructor
          · rintro (h | h)
            · exact .inr h
            · exact .inl h
          · rintro (h | h)
            · exact .inr h
            · exact .inl h
      · rename_i hl
        have hxg : Apart x g := by
          have h3 : ¬ Later x g := fun h => hl ⟨rfl, h⟩
          unfold Later at h3
          unfold Touch at ht
          unfold Apart
          omega
        obtain ⟨h1, h2⟩ := with_canon (g := g) hc.tail hg
        refine ⟨⟨List.pairwise_cons.2 ⟨with_far hc.tail hp hxg, h1.1⟩, fun q hq => ?_⟩, fun w n => ?_⟩
        · rcases List.mem_cons.1 hq with rfl | hq
          · exact hx
          · exact h1.2 q hq
        · rw [cov_cons, h2, cov_cons, or_assoc]
end Go.Proofs.Ytkkmleglaljacaa
