/- Do: a tree behind an operation. -/
import Derived.Test.YtaglomhmnoldlaaS
namespace Go.Proofs.Ytaglomhmnoldlaa
set_option linter.unusedSimpArgs false
set_option linter.unusedVariables false
open Go.RowKit
attribute [local go_sem] bs_size bs_getElem bs_list bs_append

theorem doN_at {xs : List Nd} {x : TOp} {k : Nat} (hk : k < xs.length) (h : firstI (isId x.node) xs = k) :
    doN xs x = if x.kind = 1 then xs else if (turnP xs x xs[k]).2 then xs.set k (turnP xs x xs[k]).1 else xs := by
  have h1 : xs.findIdx? (isId x.node) = some k := by
    unfold firstI at h
    cases hf : xs.findIdx? (isId x.node) with
    | none => rw [hf] at h; have h : (-1 : Int) = k := h; omega
    | some i => rw [hf] at h; have h : (i : Int) = k := h; congr 1; omega
  unfold doN
  rw [h1]
  simp only [turnN_P, List.getD_eq_getElem?_getD, List.getElem?_eq_getElem hk, Option.getD_some]
  by_cases h1 : x.kind = 1
  · simp [h1]
  · simp only [h1, if_false]
    by_cases h2 : (turnP xs x xs[k]).2 = true
    · simp [h2]
    · simp [h2]
theorem doN_no {xs : List Nd} {x : TOp} (h : firstI (isId x.node) xs = -1) :
    doN xs x = if x.kind = 1 then growN xs ⟨x.node, x.dir, if takesB x.par xs then x.par else (0, 1), x.nm, x.mf⟩ else xs := by
  have h1 : xs.findIdx? (isId x.node) = none := by
    unfold firstI at h
    cases hf : xs.findIdx? (isId x.node) with
    | none => rfl
    | some i => rw [hf] at h; have h : (i : Int) = -1 := h; omega
  unfold doN
  rw [h1]
/-- an operation's strings are no longer than can be -/
def OpS (x : TOp) : Prop := x.nm.length ≤ 9223372036854775807 ∧ x.mf.length ≤ 9223372036854775807
theorem turnP_short {xs : List Nd} {x : TOp} {y : Nd} (hx : OpS x) (hy : y.nm.length ≤ 9223372036854775807 ∧ y.mf.length ≤ 9223372036854775807) : (turnP xs x y).1.nm.length ≤ 9223372036854775807 ∧ (turnP xs x y).1.mf.length ≤ 9223372036854775807 := by
  unfold turnP
  by_cases h2 : x.kind = 2
  · simp only [h2, if_true]; exact ⟨hx.1, hy.2⟩
  by_cases h3 : x.kind = 3
  · simp only [h2, h3, if_true, if_false]; exact ⟨hy.1, hx.2⟩
  by_cases h4 : x.kind = 4
  · simp only [h2, h3, h4, if_true, if_false]; exact hy
  · simp only [h2, h3, h4, if_false]; exact hy
theorem set_short {xs : List Nd} {y : Nd} (h : Short xs) (hy : y.nm.length ≤ 9223372036854775807 ∧ y.mf.length ≤ 9223372036854775807) (k : Nat) : Short (xs.set k y) := by
  intro x hx
  rcases List.mem_or_eq_of_mem_set hx with hx | rfl
  · exact h x hx
  · exact hy
theorem growN_short {xs : List Nd} {y : Nd} (h : Short xs) (hy : y.nm.length ≤ 9223372036854775807 ∧ y.mf.length ≤ 9223372036854775807) : Short (growN xs y) := short_insert h hy _
theorem doN_short {xs : List Nd} {x : TOp} (h : Short xs) (hx : OpS x) : Short (doN xs x) := by
  rcases firstI_cases (isId x.node) xs with ⟨k, hk, hfk, _⟩ | ⟨hfk, _⟩
  · rw [doN_at hk hfk]
    split
    · exact h
    · split
      · exact set_short h (turnP_short hx (h _ (List.getElem_mem hk))) k
      · exact h
  · rw [doN_no hfk]
    split
    · exact growN_short h hx
    · exact h
theorem doN_len (xs : List Nd) (x : TOp) : (doN xs x).length ≤ xs.length + 1 := by
  rcases firstI_cases (isId x.node) xs with ⟨k, hk, hfk, _⟩ | ⟨hfk, _⟩
  · rw [doN_at hk hfk]
    split
    · omega
    · split
      · simp
      · omega
  · rw [doN_no hfk]
    split
    · simp [growN]; omega
    · omega

/-- seven cells written into an element of a list of one's own -/
def put7at (w : World) (g o : Nat) (x : Nd) : World := ((((((w.setCell ⟨g, o, none⟩ (.int .i64 x.id.1)).setCell ⟨g, o + 1, none⟩ (.int .i64 x.id.2)).setCell ⟨g, o + 2, none⟩ (.bool x.dir)).setCell ⟨g, o + 3, none⟩ (.int .i64 x.par.1)).setCell ⟨g, o + 4, none⟩ (.int .i64 x.par.2)).setCell ⟨g, o + 5, none⟩ (.string (bs x.nm))).setCell ⟨g, o + 6, none⟩ (.string (bs x.mf))
theorem put7at_cells (w : World) (g o : Nat) (x : Nd) : put7at w g o x = w.setCells g o (nc x) := rfl
theorem ncs_set (xs : List Nd) (k : Nat) (hk : k < xs.length) (y : Nd) : ∀ j u, (ncs (xs.set k y))[j]? = some u → (k * 7 ≤ j ∧ j < k * 7 + 7 ∧ (nc y)[j - k * 7]? = some u) ∨ ((j < k * 7 ∨ k * 7 + 7 ≤ j) ∧ (ncs xs)[j]? = some u) := by
  intro j u hu
  have hj : j < xs.length * 7 := by
    rcases Nat.lt_or_ge j (xs.length * 7) with h | h
    · exact h
    · rw [List.getElem?_eq_none (by rw [ncs_len, List.length_set]; exact h)] at hu; cases hu
  have hjk : j / 7 < xs.length := by omega
  have e : j = j / 7 * 7 + j % 7 := by omega
  have h1 := ncs_at (xs.set k y) (j / 7) (j % 7) (by rw [List.length_set]; exact hjk) (Nat.mod_lt _ (by decide))
  have h2 := ncs_at xs (j / 7) (j % 7) hjk (Nat.mod_lt _ (by decide))
  rw [← e] at h1 h2
  by_cases h : j / 7 = k
  · subst h
    rw [List.getElem_set_self] at h1
    refine .inl ⟨by omega, by omega, ?_⟩
    rw [show j - j / 7 * 7 = j % 7 by omega, ← h1]; exact hu
  · rw [List.getElem_set_ne (fun e => h e.symm)] at h1
    exact .inr ⟨by omega, by rw [h2, ← h1]; exact hu⟩
theorem Own.set_ {w : World} {B g c n : Nat} {xs : List Nd} (hn : xs.length = n) (h : OwnC w B 7 (.slice (some ⟨g, 0, none⟩) n c) n (ncs xs)) (k : Nat) (hk : k < n) (y : Nd) :
    OwnC (put7at w g (k * 7) y) B 7 (.slice (some ⟨g, 0, none⟩) n c) n (ncs (xs.set k y)) ∧ w.grownBy (put7at w g (k * 7) y) (some g) := by
  subst hn
  rcases h.2 with ⟨h0, _⟩ | ⟨g', cap, he, hb, hlt, hnc, hcm, hs, hf, hx⟩
  · cases h0
  obtain ⟨rfl, rfl⟩ : g = g' ∧ c = cap := by cases he; exact ⟨rfl, rfl⟩
  have hkc : k * 7 + 7 ≤ c * 7 := by omega
  rw [put7at_cells]
  have hl : (nc y).length = 7 := rfl
  refine ⟨⟨by rw [ncs_len, List.length_set], .inr ⟨g, c, rfl, hb, ?_, hnc, hcm, fun j hj => World.isSome_setCells g _ _ _ _ (hs j hj), fun j hj => by rw [World.frozen?_setCells]; exact hf j hj, fun j u hu => ?_⟩⟩, ?_⟩
  · rw [size_setCellsC]; exact hlt
  · rcases ncs_set xs k hk y j u hu with ⟨h1, h2, h3⟩ | ⟨h1, h2⟩
    · obtain ⟨hj, rfl⟩ := List.getElem?_eq_some_iff.1 h3
      have := World.cell?_setCells_in g (nc y) (k * 7) w (fun i hi => hs _ (by omega)) (j - k * 7) hj
      rwa [show k * 7 + (j - k * 7) = j by omega] at this
    · rw [World.cell?_setCells_out _ _ _ _ _ (fun _ _ => by show j < _ ∨ _ ≤ j; omega)]
      exact hx j u h2
  · exact ⟨os_setCellsC _ _ _ _, tape_setCellsC _ _ _ _, out_setCellsC _ _ _ _, by rw [size_setCellsC]; exact Nat.le_refl _, fun i hi hne => World.heap_setCells_other w g _ _ hi (fun e => hne (by rw [e]))⟩
end Go.Proofs.Ytaglomhmnoldlaa
