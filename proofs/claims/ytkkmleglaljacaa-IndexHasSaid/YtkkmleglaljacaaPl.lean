/- Ranges in plain words: which numbers they cover; lists of ranges that do not touch. -/
import Derived.WalkKit
namespace Go.Proofs.Ytkkmleglaljacaa

structure Rg where
  w : Int
  f : Int
  t : Int
deriving DecidableEq
instance : Inhabited Rg := ⟨⟨0, 0, 0⟩⟩
def cov (l : List Rg) (w n : Int) : Prop := ∃ g ∈ l, g.w = w ∧ g.f ≤ n ∧ n ≤ g.t
/-- a stands ahead of b, and does not touch it -/
def Apart (a b : Rg) : Prop := a.w < b.w ∨ (a.w = b.w ∧ a.t + 1 < b.f)
def Canon (l : List Rg) : Prop := l.Pairwise Apart ∧ ∀ g ∈ l, g.f ≤ g.t

theorem cov_nil (w n : Int) : ¬ cov [] w n := fun ⟨_, h, _⟩ => by cases h
theorem cov_cons {x : Rg} {l : List Rg} {w n : Int} : cov (x :: l) w n ↔ (x.w = w ∧ x.f ≤ n ∧ n ≤ x.t) ∨ cov l w n := by
  constructor
  · rintro ⟨g, hg, h⟩
    rcases List.mem_cons.1 hg with rfl | hg
    · exact .inl h
    · exact .inr ⟨g, hg, h⟩
  · rintro (h | ⟨g, hg, h⟩)
    · exact ⟨x, by simp, h⟩
    · exact ⟨g, List.mem_cons_of_mem _ hg, h⟩
theorem cov_append {a b : List Rg} {w n : Int} : cov (a ++ b) w n ↔ cov a w n ∨ cov b w n := by
  induction a with
  | nil => simp [cov_nil]
  | cons x a ih => rw [List.cons_append, cov_cons, ih, cov_cons, or_assoc]
theorem Canon.tail {x : Rg} {l : List Rg} (h : Canon (x :: l)) : Canon l := ⟨(List.pairwise_cons.1 h.1).2, fun g hg => h.2 g (List.mem_cons_of_mem _ hg)⟩
theorem tail_far {x : Rg} {l : List Rg} (h : Canon (x :: l)) {w n : Int} (hc : cov l w n) : x.w < w ∨ (x.w = w ∧ x.t + 1 < n) := by
  obtain ⟨g, hg, h1, h2, h3⟩ := hc
  have := (List.pairwise_cons.1 h.1).1 g hg
  unfold Apart at this
  omega
theorem head_min {x : Rg} {l : List Rg} (h : Canon (x :: l)) {w n : Int} (hc : cov (x :: l) w n) : x.w < w ∨ (x.w = w ∧ x.f ≤ n) := by
  have hx := h.2 x (by simp)
  rcases cov_cons.1 hc with ⟨h1, h2, _⟩ | hc
  · exact .inr ⟨h1, h2⟩
  · have := tail_far h hc
    omega
theorem cov_head {x : Rg} {l : List Rg} (h : Canon (x :: l)) : cov (x :: l) x.w x.f := cov_cons.2 (.inl ⟨rfl, Int.le_refl _, h.2 x (by simp)⟩)
theorem not_next {x : Rg} {l : List Rg} (h : Canon (x :: l)) : ¬ cov (x :: l) x.w (x.t + 1) := by
  intro hc
  rcases cov_cons.1 hc with ⟨_, _, h3⟩ | hc
  · omega
  · have := tail_far h hc
    omega
/-- what is covered tells the list -/
theorem canon_one : ∀ {a b : List Rg}, Canon a → Canon b → (∀ w n, cov a w n ↔ cov b w n) → a = b
  | [], [], _, _, _ => rfl
  | [], y :: b, _, hb, h => (cov_nil _ _ ((h _ _).2 (cov_head hb))).elim
  | x :: a, [], ha, _, h => (cov_nil _ _ ((h _ _).1 (cov_head ha))).elim
  | x :: a, y :: b, ha, hb, h => by
    have h1 := head_min hb ((h _ _).1 (cov_head ha))
    have h2 := head_min ha ((h _ _).2 (cov_head hb))
    have hw : x.w = y.w := by omega
    have hf : x.f = y.f := by omega
    have hx := ha.2 x (by simp)
    have hy := hb.2 y (by simp)
    have ht : x.t = y.t := by
      rcases Int.lt_trichotomy x.t y.t with c | c | c
      · exfalso
        exact not_next ha ((h _ _).2 (cov_cons.2 (.inl ⟨hw.symm, by omega, by omega⟩)))
      · exact c
      · exfalso
        exact not_next hb ((h _ _).1 (cov_cons.2 (.inl ⟨hw, by omega, by omega⟩)))
    have hxy : x = y := by
      obtain ⟨_, _, _⟩ := x
      obtain ⟨_, _, _⟩ := y
      simp only at hw hf ht
      subst hw hf ht
      rfl
    subst hxy
    have := canon_one ha.tail hb.tail (fun w n => by
      have hh := h w n
      rw [cov_cons, cov_cons] at hh
      constructor
      · intro hc
        rcases hh.1 (.inr hc) with ⟨e1, e2, e3⟩ | hc'
        · have := tail_far ha hc
          omega
        · exact hc'
      · intro hc
        rcases hh.2 (.inr hc) with ⟨e1, e2, e3⟩ | hc'
        · have := tail_far hb hc
          omega
        · exact hc')
    rw [this]

/-! ### joining a sorted list; the list is kept with its last range first -/
def joinR : List Rg → Rg → List Rg
  | [], g => [g]
  | h :: r, g => if h.w = g.w ∧ g.f ≤ h.t + 1 then ⟨h.w, h.f, max h.t g.t⟩ :: r else g :: h :: r
theorem joinR_cons (h : Rg) (r : List Rg) (g : Rg) : joinR (h :: r) g = if h.w = g.w ∧ g.f ≤ h.t + 1 then ⟨h.w, h.f, max h.t g.t⟩ :: r else g :: h :: r := rfl
/-- by device, then by the first number -/
def Ahead (a b : Rg) : Prop := a.w < b.w ∨ (a.w = b.w ∧ a.f ≤ b.f)
def CanonR (l : List Rg) : Prop := l.Pairwise (fun a b => Apart b a) ∧ ∀ g ∈ l, g.f ≤ g.t
theorem joinR_canon {l : List Rg} {g : Rg} (h : CanonR l) (hg : g.f ≤ g.t) (hl : ∀ x ∈ l, Ahead x g) : CanonR (joinR l g) := by
  cases l with
  | nil => exact ⟨by simp [joinR], by simpa [joinR] using hg⟩
  | cons y r =>
    obtain ⟨h1, h2⟩ := List.pairwise_cons.1 h.1
    have hy := h.2 y (by simp)
    have ha := hl y (by simp)
    unfold Ahead at ha
    rw [joinR_cons]
    split
    · refine ⟨List.pairwise_cons.2 ⟨fun z hz => ?_, h2⟩, fun z hz => ?_⟩
      · have := h1 z hz
        unfold Apart at this ⊢
        simp only
        omega
      · rcases List.mem_cons.1 hz with rfl | hz
        · simp only; omega
        · exact h.2 z (List.mem_cons_of_mem _ hz)
    · refine ⟨List.pairwise_cons.2 ⟨fun z hz => ?_, h.1⟩, fun z hz => ?_⟩
      · unfold Apart
        rcases List.mem_cons.1 hz with rfl | hz
        · omega
        · have := h1 z hz
          unfold Apart at this
          omega
      · rcases List.mem_cons.1 hz with rfl | hz
        · exact hg
        · exact h.2 z hz
theorem joinR_cov {l : List Rg} {g : Rg} (_hg : g.f ≤ g.t) (hl : ∀ x ∈ l, Ahead x g) (hv : ∀ x ∈ l, x.f ≤ x.t) (w n : Int) : cov (joinR l g) w n ↔ cov l w n ∨ (g.w = w ∧ g.f ≤ n ∧ n ≤ g.t) := by
  cases l with
  | nil => simp [joinR, cov_cons, cov_nil]
  | cons y r =>
    have ha := hl y (by simp)
    have hy := hv y (by simp)
    unfold Ahead at ha
    rw [joinR_cons]
    split
    · rw [cov_cons, cov_cons]
      simp only
      constructor
      · rintro (h | h)
        · by_cases c : n ≤ y.t
          · exact .inl (.inl (by omega))
          · exact .inr (by omega)
        · exact .inl (.inr h)
      · rintro ((h | h) | h)
        · exact .inl (by omega)
        · exact .inr h
        · exact .inl (by omega)
    · rw [cov_cons, cov_cons]
      constructor
      · rintro (h | h)
        · exact .inr h
        · exact .inl h
      · rintro (h | h)
        · exact .inr h
        · exact .inl h
theorem joinR_ahead {l : List Rg} {g b : Rg} (hl : ∀ x ∈ l, Ahead x b) (hg : Ahead g b) : ∀ x ∈ joinR l g, Ahead x b := by
  intro x hx
  cases l with
  | nil =>
    simp [joinR] at hx
    rw [hx]; exact hg
  | cons y r =>
    rw [joinR_cons] at hx
    split at hx
    · rcases List.mem_cons.1 hx with rfl | hx
      · have := hl y (by simp)
        unfold Ahead at this ⊢
        exact this
      · exact hl x (List.mem_cons_of_mem _ hx)
    · rcases List.mem_cons.1 hx with rfl | hx
      · exact hg
      · exact hl x hx
/-- a sorted list, joined -/
theorem join_all : ∀ (s l : List Rg), CanonR l → s.Pairwise Ahead → (∀ g ∈ s, g.f ≤ g.t) → (∀ x ∈ l, ∀ g ∈ s, Ahead x g) → CanonR (s.foldl joinR l) ∧ ∀ w n, cov (s.foldl joinR l) w n ↔ cov l w n ∨ cov s w n
  | [], l, h, _, _, _ => ⟨h, fun w n => by simp [cov_nil]⟩
  | g :: s, l, h, hs, hv, hl => by
    obtain ⟨h1, h2⟩ := List.pairwise_cons.1 hs
    have hg := hv g (by simp)
    have hlg : ∀ x ∈ l, Ahead x g := fun x hx => hl x hx g (by simp)
    obtain ⟨i1, i2⟩ := join_all s (joinR l g) (joinR_canon h hg hlg) h2 (fun x hx => hv x (List.mem_cons_of_mem _ hx)) (fun x hx b hb => joinR_ahead (fun y hy => hl y hy b (List.mem_cons_of_mem _ hb)) (h1 b hb) x hx)
    refine ⟨i1, fun w n => ?_⟩
    rw [List.foldl_cons, i2, joinR_cov hg hlg h.2, cov_cons, or_assoc]
theorem CanonR.rev {l : List Rg} (h : CanonR l) : Canon l.reverse := ⟨List.pairwise_reverse.2 h.1, fun g hg => h.2 g (by simpa using hg)⟩
theorem cov_rev {l : List Rg} {w n : Int} : cov l.reverse w n ↔ cov l w n := by
  unfold cov
  simp
end Go.Proofs.Ytkkmleglaljacaa
