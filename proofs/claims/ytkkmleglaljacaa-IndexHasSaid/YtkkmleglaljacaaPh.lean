/- Joined lists of ranges, how many numbers they have, the gaps of many, in plain words. -/
import Derived.Test.YtkkmleglaljacaaPg
namespace Go.Proofs.Ytkkmleglaljacaa

def joinAll (s : List Rg) : List Rg := (s.foldl joinR []).reverse
/-- J is the one canonical list of what l covers -/
def Is (J l : List Rg) : Prop := Canon J ∧ ∀ w n, cov J w n ↔ cov l w n
theorem Is.one {J K l : List Rg} (h : Is J l) (k : Is K l) : J = K := canon_one h.1 k.1 fun w n => (h.2 w n).trans (k.2 w n).symm
theorem Is.nil_ : Is [] [] := ⟨⟨List.Pairwise.nil, fun _ h => by cases h⟩, fun _ _ => Iff.rfl⟩
theorem cov_perm {a b : List Rg} (h : a.Perm b) (w n : Int) : cov a w n ↔ cov b w n := by
  unfold cov
  constructor
  · rintro ⟨g, hg, r⟩; exact ⟨g, h.mem_iff.1 hg, r⟩
  · rintro ⟨g, hg, r⟩; exact ⟨g, h.mem_iff.2 hg, r⟩
theorem joinAll_is {s l : List Rg} (hp : s.Perm l) (hs : s.Pairwise Ahead) (hv : ∀ g ∈ l, g.f ≤ g.t) : Is (joinAll s) l := by
  obtain ⟨h1, h2⟩ := join_all s [] ⟨List.Pairwise.nil, fun _ h => by cases h⟩ hs (fun g hg => hv g (hp.mem_iff.1 hg)) (fun _ h => by cases h)
  refine ⟨h1.rev, fun w n => ?_⟩
  unfold joinAll
  rw [cov_rev, h2, cov_perm hp]
  simp [cov_nil]
theorem joinR_len (l : List Rg) (g : Rg) : (joinR l g).length ≤ l.length + 1 := by
  cases l with
  | nil => simp [joinR]
  | cons h r => rw [joinR_cons]; split <;> simp
theorem foldR_len : ∀ (s l : List Rg), (s.foldl joinR l).length ≤ l.length + s.length
  | [], l => by simp
  | g :: s, l => by
    have := foldR_len s (joinR l g)
    have := joinR_len l g
    rw [List.foldl_cons, List.length_cons]
    omega
theorem joinAll_len (s : List Rg) : (joinAll s).length ≤ s.length := by
  have := foldR_len s []
  unfold joinAll
  simpa using this

/-! ### sorting, once -/
instance (a b : Rg) : Decidable (Ahead a b) := by unfold Ahead; infer_instance
def sortL (l : List Rg) : List Rg := l.mergeSort fun a b => decide (Ahead a b)
theorem sortL_ok (l : List Rg) : (sortL l).Perm l ∧ (sortL l).Pairwise Ahead := by
  refine ⟨List.mergeSort_perm _ _, ?_⟩
  have := List.pairwise_mergeSort (le := fun a b : Rg => decide (Ahead a b)) (fun a b c h1 h2 => by
    simp only [decide_eq_true_eq] at *
    unfold Ahead at *
    omega) (fun a b => by
    simp only [Bool.or_eq_true, decide_eq_true_eq]
    unfold Ahead
    omega) l
  exact this.imp fun h => by simpa using h
theorem is_some {l : List Rg} (hv : ∀ g ∈ l, g.f ≤ g.t) : Is (joinAll (sortL l)) l := joinAll_is (sortL_ok l).1 (sortL_ok l).2 hv
theorem Is.len {J l : List Rg} (h : Is J l) (hv : ∀ g ∈ l, g.f ≤ g.t) : J.length ≤ l.length := by
  rw [h.one (is_some hv)]
  have := joinAll_len (sortL l)
  rwa [(sortL_ok l).1.length_eq] at this

/-! ### right ranges -/
def RightR (g : Rg) : Prop := 0 ≤ g.w ∧ g.w < 15 ∧ 1 ≤ g.f ∧ g.f ≤ g.t ∧ g.t ≤ 1099511627776
instance (g : Rg) : Decidable (RightR g) := by unfold RightR; infer_instance
theorem RightR.le {g : Rg} (h : RightR g) : g.f ≤ g.t := h.2.2.2.1
theorem Is.right {J l : List Rg} (h : Is J l) (hr : ∀ g ∈ l, RightR g) : ∀ g ∈ J, RightR g := by
  intro x hx
  have hft := h.1.2 x hx
  obtain ⟨a, ha, a1, a2, a3⟩ := (h.2 x.w x.f).1 ⟨x, hx, rfl, Int.le_refl _, hft⟩
  obtain ⟨b, hb, b1, b2, b3⟩ := (h.2 x.w x.t).1 ⟨x, hx, rfl, hft, Int.le_refl _⟩
  have h1 := hr a ha
  have h2 := hr b hb
  unfold RightR at *
  omega

/-! ### how many numbers -/
def manyL (l : List Rg) : Int := (l.map fun g => g.t - g.f + 1).sum
theorem many_cons (g : Rg) (l : List Rg) : manyL (g :: l) = (g.t - g.f + 1) + manyL l := by simp [manyL]
theorem many_append (a b : List Rg) : manyL (a ++ b) = manyL a + manyL b := by simp [manyL]
theorem many_perm {a b : List Rg} (h : a.Perm b) : manyL a = manyL b := by
  induction h with
  | nil => rfl
  | cons x _ ih => rw [many_cons, many_cons, ih]
  | swap x y l => simp only [many_cons]; omega
  | trans _ _ ih1 ih2 => exact ih1.trans ih2
theorem many_rev (l : List Rg) : manyL l.reverse = manyL l := many_perm (List.reverse_perm l)
def Dis (a b : Rg) : Prop := a.w ≠ b.w ∨ a.t < b.f ∨ b.t < a.f
theorem Dis.symm {a b : Rg} (h : Dis a b) : Dis b a := by unfold Dis at *; omega
theorem many_join : ∀ (s l : List Rg), (∀ x ∈ l, x.f ≤ x.t) → s.Pairwise Ahead → s.Pairwise Dis → (∀ g ∈ s, g.f ≤ g.t) → (∀ x ∈ l, ∀ g ∈ s, Ahead x g ∧ Dis x g) → manyL (s.foldl joinR l) = manyL l + manyL s
  | [], l, _, _, _, _, _ => by simp [manyL]
  | g :: s, l, hl, hs, hd, hv, hx => by
    obtain ⟨h1, h2⟩ := List.pairwise_cons.1 hs
    obtain ⟨d1, d2⟩ := List.pairwise_cons.1 hd
    have hg := hv g (by simp)
    have hvs : ∀ x ∈ s, x.f ≤ x.t := fun x hx => hv x (List.mem_cons_of_mem _ hx)
    rw [List.foldl_cons]
    cases l with
    | nil =>
      rw [many_join s _ (by simpa [joinR] using hg) h2 d2 hvs (by simp only [joinR, List.mem_singleton]; rintro x rfl b hb; exact ⟨h1 b hb, d1 b hb⟩)]
      simp [joinR, manyL]
    | cons y r =>
      have hy := hl y (by simp)
      obtain ⟨y1, y2⟩ := hx y (by simp) g (by simp)
      unfold Ahead at y1
      unfold Dis at y2
      rw [joinR_cons]
      split
      · rename_i ht
        have hm : max y.t g.t = g.t := by omega
        rw [hm]
        rw [many_join s _ (fun x hx => by
          rcases List.mem_cons.1 hx with rfl | hx
          · simp only; omega
          · exact hl x (List.mem_cons_of_mem _ hx)) h2 d2 hvs (fun x hx2 b hb => by
          rcases List.mem_cons.1 hx2 with rfl | hx2
          · have e1 := h1 b hb
            have e2 := d1 b hb
            obtain ⟨e3, e4⟩ := hx y (by simp) b (List.mem_cons_of_mem _ hb)
            have := hvs b hb
            unfold Ahead Dis at *
            simp only
            omega
          · exact hx x (List.mem_cons_of_mem _ hx2) b (List.mem_cons_of_mem _ hb))]
        simp only [many_cons]
        omega
      · rw [many_join s _ (fun x hx => by
          rcases List.mem_cons.1 hx with rfl | hx
          · exact hg
          · exact hl x hx) h2 d2 hvs (fun x hx2 b hb => by
          rcases List.mem_cons.1 hx2 with rfl | hx2
          · exact ⟨h1 b hb, d1 b hb⟩
          · exact hx x hx2 b (List.mem_cons_of_mem _ hb))]
        simp only [many_cons]
        omega
/-- a range that is apart from all adds just its numbers -/
theorem Is.many {J K : List Rg} {g : Rg} (hJ : Canon J) (hg : g.f ≤ g.t) (hd : ∀ n, g.f ≤ n → n ≤ g.t → ¬ cov J g.w n) (hK : Is K (J ++ [g])) : manyL K = manyL J + (g.t - g.f + 1) := by
  have hv : ∀ x ∈ J ++ [g], x.f ≤ x.t := fun x hx => by
    rcases List.mem_append.1 hx with hx | hx
    · exact hJ.2 x hx
    · cases List.mem_singleton.1 hx; exact hg
  rw [hK.one (is_some hv)]
  unfold joinAll
  rw [many_rev]
  obtain ⟨p1, p2⟩ := sortL_ok (J ++ [g])
  have hdis : (sortL (J ++ [g])).Pairwise Dis := by
    refine (p1.pairwise_iff (fun {a b} h => Dis.symm h)).2 ?_
    refine List.pairwise_append.2 ⟨hJ.1.imp fun {a b} h => ?_, List.pairwise_singleton _ _, fun a ha b hb => ?_⟩
    · unfold Apart at h; unfold Dis; omega
    · cases List.mem_singleton.1 hb
      have ha2 := hJ.2 a ha
      unfold Dis
      by_cases c : a.w = g.w ∧ g.f ≤ a.t ∧ a.f ≤ g.t
      · exfalso
        have e1 := hd (max g.f a.f) (by omega) (by omega)
        exact e1 ⟨a, ha, c.1, by omega, by omega⟩
      · omega
  rw [many_join _ [] (fun _ h => by cases h) p2 hdis (fun x hx => hv x (p1.mem_iff.1 hx)) (fun _ h => by cases h), many_perm p1, many_append]
  simp [manyL]

/-! ### the gaps of many -/
def gapsL (all there : List Rg) : List Rg := all.flatMap fun g => gapOne g g.f there
theorem gapsL_cons (g : Rg) (all there : List Rg) : gapsL (g :: all) there = gapOne g g.f there ++ gapsL all there := by simp [gapsL]
theorem gapsL_cov {there : List Rg} (hc : Canon there) : ∀ (all : List Rg) (w n : Int), cov (gapsL all there) w n ↔ cov all w n ∧ ¬ cov there w n
  | [], w, n => by simp [gapsL, cov_nil]
  | g :: all, w, n => by
    rw [gapsL_cons, cov_append, gap_cov g there g.f hc, gapsL_cov hc all, cov_cons]
    constructor
    · rintro (⟨h1, h2, h3, h4⟩ | ⟨h1, h2⟩)
      · exact ⟨.inl ⟨h1, h2, h3⟩, h4⟩
      · exact ⟨.inr h1, h2⟩
    · rintro ⟨(⟨h1, h2, h3⟩ | h1), h4⟩
      · exact .inl ⟨h1, h2, h3, h4⟩
      · exact .inr ⟨h1, h4⟩
theorem gapOne_in (g : Rg) : ∀ (l : List Rg) (a : Int), Canon l → ∀ x ∈ gapOne g a l, x.w = g.w ∧ a ≤ x.f ∧ x.f ≤ x.t ∧ x.t ≤ g.t
  | [], a, _, x, hx => by
    unfold gapOne at hx
    split at hx
    · cases List.mem_singleton.1 hx
      exact ⟨rfl, Int.le_refl _, by assumption, Int.le_refl _⟩
    · cases hx
  | y :: r, a, hc, x, hx => by
    have hy := hc.2 y (by simp)
    rw [gapOne] at hx
    split at hx
    · exact gapOne_in g r a hc.tail x hx
    · rename_i hs
      rcases List.mem_append.1 hx with hx | hx
      · split at hx
        · cases List.mem_singleton.1 hx
          exact ⟨rfl, Int.le_refl _, by simp only; omega, by simp only; omega⟩
        · cases hx
      · obtain ⟨h1, h2, h3, h4⟩ := gapOne_in g r (y.t + 1) hc.tail x hx
        exact ⟨h1, by omega, h3, h4⟩
theorem gapOne_canon (g : Rg) : ∀ (l : List Rg) (a : Int), Canon l → (gapOne g a l).Pairwise Apart
  | [], a, _ => by unfold gapOne; split <;> simp
  | y :: r, a, hc => by
    have hy := hc.2 y (by simp)
    rw [gapOne]
    split
    · exact gapOne_canon g r a hc.tail
    · refine List.pairwise_append.2 ⟨by split <;> simp, gapOne_canon g r (y.t + 1) hc.tail, fun x hx z hz => ?_⟩
      split at hx
      · cases List.mem_singleton.1 hx
        obtain ⟨h1, h2, h3, h4⟩ := gapOne_in g r (y.t + 1) hc.tail z hz
        unfold Apart
        simp only
        omega
      · cases hx
theorem gapsL_in {there : List Rg} (hc : Canon there) (all : List Rg) : ∀ x ∈ gapsL all there, ∃ g ∈ all, x.w = g.w ∧ g.f ≤ x.f ∧ x.f ≤ x.t ∧ x.t ≤ g.t := by
  intro x hx
  obtain ⟨g, hg, hx⟩ := List.mem_flatMap.1 hx
  exact ⟨g, hg, gapOne_in g there g.f hc x hx⟩
theorem gapsL_canon {there : List Rg} (hc : Canon there) : ∀ {all : List Rg}, Canon all → Canon (gapsL all there)
  | [], _ => ⟨by simp [gapsL], by simp [gapsL]⟩
  | g :: all, ha => by
    refine ⟨?_, fun x hx => ?_⟩
    · rw [gapsL_cons]
      refine List.pairwise_append.2 ⟨gapOne_canon g there g.f hc, (gapsL_canon hc ha.tail).1, fun x hx z hz => ?_⟩
      obtain ⟨h1, h2, h3, h4⟩ := gapOne_in g there g.f hc x hx
      obtain ⟨b, hb, b1, b2, b3, b4⟩ := gapsL_in hc all z hz
      have := (List.pairwise_cons.1 ha.1).1 b hb
      unfold Apart at *
      omega
    · obtain ⟨b, hb, b1, b2, b3, b4⟩ := gapsL_in hc _ x hx
      exact b3
theorem nodup_len {α : Type} [DecidableEq α] : ∀ {l m : List α}, l.Nodup → (∀ x ∈ l, x ∈ m) → l.length ≤ m.length
  | [], _, _, _ => Nat.zero_le _
  | x :: l, m, h, hm => by
    obtain ⟨h1, h2⟩ := List.nodup_cons.1 h
    have hx := hm x (by simp)
    have := nodup_len (l := l) (m := m.erase x) h2 (fun y hy => (List.mem_erase_of_ne (fun (e : y = x) => h1 (e ▸ hy))).2 (hm y (List.mem_cons_of_mem _ hy)))
    rw [List.length_erase_of_mem hx] at this
    have hp := List.length_pos_of_mem hx
    rw [List.length_cons]
    omega
theorem gapOne_ends (g : Rg) : ∀ (l : List Rg) (a : Int), ∀ x ∈ gapOne g a l, (x.w, x.t) = (g.w, g.t) ∨ ∃ y ∈ l, (x.w, x.t) = (y.w, y.f - 1)
  | [], a, x, hx => by
    unfold gapOne at hx
    split at hx
    · cases List.mem_singleton.1 hx; exact .inl rfl
    · cases hx
  | y :: r, a, x, hx => by
    have wid : ((x.w, x.t) = (g.w, g.t) ∨ ∃ y ∈ r, (x.w, x.t) = (y.w, y.f - 1)) → ((x.w, x.t) = (g.w, g.t) ∨ ∃ z ∈ y :: r, (x.w, x.t) = (z.w, z.f - 1)) := by
      rintro (h | ⟨z, hz, h⟩)
      · exact .inl h
      · exact .inr ⟨z, List.mem_cons_of_mem _ hz, h⟩
    rw [gapOne] at hx
    split at hx
    · exact wid (gapOne_ends g r a x hx)
    · rename_i hs
      rcases List.mem_append.1 hx with hx | hx
      · split at hx
        · cases List.mem_singleton.1 hx
          refine .inr ⟨y, by simp, ?_⟩
          have : y.w = g.w := by omega
          simp [this]
        · cases hx
      · exact wid (gapOne_ends g r _ x hx)
theorem gapsL_len {all there : List Rg} (hc : Canon there) (ha : Canon all) : (gapsL all there).length ≤ all.length + there.length := by
  have hn : ((gapsL all there).map fun x => (x.w, x.t)).Nodup := by
    have hcan := gapsL_canon hc ha
    refine List.Pairwise.map _ ?_ (List.Pairwise.and_mem.1 hcan.1)
    rintro a b ⟨hma, hmb, h⟩ e
    have h2 := hcan.2 b hmb
    simp only [Prod.mk.injEq] at e
    unfold Apart at h
    omega
  have := nodup_len (m := (all.map fun g => (g.w, g.t)) ++ there.map fun y => (y.w, y.f - 1)) hn (fun p hp => by
    obtain ⟨x, hx, rfl⟩ := List.mem_map.1 hp
    obtain ⟨g, hg, hx⟩ := List.mem_flatMap.1 hx
    rcases gapOne_ends g there g.f x hx with h | ⟨y, hy, h⟩
    · exact List.mem_append_left _ (List.mem_map.2 ⟨g, hg, h.symm⟩)
    · exact List.mem_append_right _ (List.mem_map.2 ⟨y, hy, h.symm⟩))
  simpa using this
/-- as the document says it: nothing more when the range is used up -/
def gapDoc (g : Rg) : Int → List Rg → List Rg
  | a, [] => if a ≤ g.t then [⟨g.w, a, g.t⟩] else []
  | a, y :: r => if y.w ≠ g.w ∨ y.t < a ∨ y.f > g.t ∨ a > g.t then gapDoc g a r else (if a < y.f then [⟨g.w, a, y.f - 1⟩] else []) ++ gapDoc g (y.t + 1) r
theorem gapDoc_off (g : Rg) : ∀ (l : List Rg) (a : Int), a > g.t → gapDoc g a l = []
  | [], a, h => by unfold gapDoc; rw [if_neg (by omega)]
  | y :: r, a, h => by rw [gapDoc, if_pos (by omega)]; exact gapDoc_off g r a h
theorem gapOne_off (g : Rg) : ∀ (l : List Rg) (a : Int), a > g.t → (∀ y ∈ l, y.w = g.w → y.f > g.t) → gapOne g a l = []
  | [], a, h, _ => by unfold gapOne; rw [if_neg (by omega)]
  | y :: r, a, h, hy => by
    have := hy y (by simp)
    rw [gapOne, if_pos (by omega)]
    exact gapOne_off g r a h (fun z hz => hy z (List.mem_cons_of_mem _ hz))
theorem gapDoc_eq (g : Rg) : ∀ (l : List Rg) (a : Int), Canon l → a ≤ g.t → gapDoc g a l = gapOne g a l
  | [], a, _, _ => rfl
  | y :: r, a, hc, h => by
    rw [gapDoc, gapOne]
    by_cases c : y.w ≠ g.w ∨ y.t < a ∨ y.f > g.t
    · rw [if_pos (by omega), if_pos c]
      exact gapDoc_eq g r a hc.tail h
    · rw [if_neg (by omega), if_neg c]
      by_cases d : y.t + 1 ≤ g.t
      · rw [gapDoc_eq g r (y.t + 1) hc.tail d]
      · rw [gapDoc_off g r _ (by omega), gapOne_off g r _ (by omega) (fun z hz e => by
          have := (List.pairwise_cons.1 hc.1).1 z hz
          unfold Apart at this
          omega)]
theorem gapsL_doc {all there : List Rg} (hc : Canon there) (ha : ∀ g ∈ all, g.f ≤ g.t) : (all.flatMap fun g => gapDoc g g.f there) = gapsL all there := by
  unfold gapsL
  rw [List.flatMap_def, List.flatMap_def]
  congr 1
  exact List.map_congr_left fun g hg => gapDoc_eq g there g.f hc (ha g hg)
end Go.Proofs.Ytkkmleglaljacaa
