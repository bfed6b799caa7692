/- The vector of ranges, in plain words. -/
import Derived.Test.YtkkmleglaljacaaPh
namespace Go.Proofs.Ytkkmleglaljacaa

def padTo (out : List Int) (n : Nat) : List Int := out ++ List.replicate (n - out.length) 0
theorem padTo_len (out : List Int) (n : Nat) : (padTo out n).length = max out.length n := by unfold padTo; simp; omega
def vecL : List Int → List Rg → List Int
  | out, [] => out
  | out, g :: r => if g.f > 1 then vecL out r else vecL (padTo out g.w.toNat ++ [g.t]) r
/-- as the document says it -/
def vecDoc : List Int → List Rg → List Int
  | out, [] => out
  | out, g :: r => if g.f = 1 then vecDoc ((padTo out (g.w.toNat + 1)).set g.w.toNat g.t) r else vecDoc out r
theorem vec_doc : ∀ (l : List Rg) (out : List Int), Canon l → (∀ x ∈ l, RightR x) → (∀ x ∈ l, x.f ≤ 1 → out.length ≤ x.w.toNat) → vecDoc out l = vecL out l
  | [], _, _, _, _ => rfl
  | g :: r, out, hc, hr, ho => by
    have hg := hr g (by simp)
    have hrr : ∀ x ∈ r, RightR x := fun x hx => hr x (List.mem_cons_of_mem _ hx)
    rw [vecDoc, vecL]
    by_cases c : g.f = 1
    · have h0 := ho g (by simp) (by omega)
      rw [if_pos c, if_neg (by omega)]
      have e : (padTo out (g.w.toNat + 1)).set g.w.toNat g.t = padTo out g.w.toNat ++ [g.t] := by
        unfold padTo
        apply List.ext_getElem?
        intro i
        rw [List.getElem?_set]
        simp only [List.length_append, List.length_replicate]
        rcases Nat.lt_trichotomy i g.w.toNat with h | h | h
        · rw [if_neg (by omega), List.getElem?_append_left (l₁ := out ++ _) (by simp; omega)]
          rcases Nat.lt_or_ge i out.length with h1 | h1
          · rw [List.getElem?_append_left h1, List.getElem?_append_left h1]
          · rw [List.getElem?_append_right h1, List.getElem?_append_right h1, List.getElem?_replicate, List.getElem?_replicate, if_pos (by omega), if_pos (by omega)]
        · subst h
          rw [if_pos rfl, if_pos (by omega), List.getElem?_append_right (l₁ := out ++ _) (by simp; omega)]
          simp only [List.length_append, List.length_replicate]
          rw [show g.w.toNat - (out.length + (g.w.toNat - out.length)) = 0 by omega]
          rfl
        · rw [if_neg (by omega), List.getElem?_eq_none (by simp; omega), List.getElem?_eq_none (by simp; omega)]
      rw [e]
      refine vec_doc r _ hc.tail hrr fun x hx hx1 => ?_
      have := (List.pairwise_cons.1 hc.1).1 x hx
      have hxr := hrr x hx
      rw [List.length_append, padTo_len]
      unfold Apart RightR at *
      simp only [List.length_cons, List.length_nil]
      omega
    · unfold RightR at hg
      rw [if_neg c, if_pos (by omega)]
      exact vec_doc r out hc.tail hrr fun x hx => ho x (List.mem_cons_of_mem _ hx)
structure VecOk (out v : List Int) (l : List Rg) : Prop where
  len : v.length ≤ max out.length 15
  from_ : ∀ k, k < out.length → v[k]? = out[k]?
  at_ : ∀ x ∈ l, x.f ≤ 1 → v[x.w.toNat]? = some x.t
  no : ∀ k, out.length ≤ k → k < v.length → (v[k]? = some 0 ∧ ∀ x ∈ l, x.f ≤ 1 → x.w.toNat ≠ k) ∨ ∃ x ∈ l, x.f ≤ 1 ∧ x.w.toNat = k
  off : ∀ k, v.length ≤ k → ∀ x ∈ l, x.f ≤ 1 → x.w.toNat ≠ k
  last : v = out ∨ ∃ t, v.getLast? = some t ∧ 0 < t
theorem vec_ok : ∀ (l : List Rg) (out : List Int), Canon l → (∀ x ∈ l, RightR x) → (∀ x ∈ l, x.f ≤ 1 → out.length ≤ x.w.toNat) → VecOk out (vecL out l) l
  | [], out, _, _, _ => ⟨Nat.le_max_left _ _, fun _ _ => rfl, fun _ h => (by cases h), fun k h1 h2 => by rw [vecL] at h2; omega, fun _ _ _ h => (by cases h), .inl rfl⟩
  | g :: r, out, hc, hr, ho => by
    have hg := hr g (by simp)
    have hrr : ∀ x ∈ r, RightR x := fun x hx => hr x (List.mem_cons_of_mem _ hx)
    rw [vecL]
    by_cases c : g.f > 1
    · rw [if_pos c]
      have h := vec_ok r out hc.tail hrr fun x hx => ho x (List.mem_cons_of_mem _ hx)
      refine ⟨h.len, h.from_, fun x hx hx1 => ?_, fun k h1 h2 => ?_, fun k h1 x hx hx1 => ?_, h.last⟩
      · rcases List.mem_cons.1 hx with rfl | hx
        · omega
        · exact h.at_ x hx hx1
      · rcases h.no k h1 h2 with ⟨e1, e2⟩ | ⟨x, hx, e1⟩
        · refine .inl ⟨e1, fun x hx hx1 => ?_⟩
          rcases List.mem_cons.1 hx with rfl | hx
          · omega
          · exact e2 x hx hx1
        · exact .inr ⟨x, List.mem_cons_of_mem _ hx, e1⟩
      · rcases List.mem_cons.1 hx with rfl | hx
        · omega
        · exact h.off k h1 x hx hx1
    · rw [if_neg c]
      have h0 := ho g (by simp) (by omega)
      have hl : (padTo out g.w.toNat ++ [g.t]).length = g.w.toNat + 1 := by rw [List.length_append, padTo_len, List.length_singleton]; omega
      have hn : ∀ x ∈ r, x.f ≤ 1 → g.w.toNat + 1 ≤ x.w.toNat := fun x hx hx1 => by
        have := (List.pairwise_cons.1 hc.1).1 x hx
        have hxr := hrr x hx
        unfold Apart RightR at *
        omega
      have hat : (padTo out g.w.toNat ++ [g.t])[g.w.toNat]? = some g.t := by
        rw [List.getElem?_append_right (by rw [padTo_len]; omega), padTo_len, show g.w.toNat - max out.length g.w.toNat = 0 by omega]
        rfl
      have h := vec_ok r (padTo out g.w.toNat ++ [g.t]) hc.tail hrr fun x hx hx1 => by rw [hl]; exact hn x hx hx1
      have hf := h.from_
      rw [hl] at hf
      refine ⟨?_, fun k hk => ?_, fun x hx hx1 => ?_, fun k h1 h2 => ?_, fun k h1 x hx hx1 => ?_, .inr ?_⟩
      · have := h.len
        rw [hl] at this
        unfold RightR at hg
        omega
      · rw [hf k (by omega), List.getElem?_append_left (by rw [padTo_len]; omega)]
        unfold padTo
        rw [List.getElem?_append_left hk]
      · rcases List.mem_cons.1 hx with rfl | hx
        · rw [hf _ (by omega), hat]
        · exact h.at_ x hx hx1
      · rcases Nat.lt_trichotomy k g.w.toNat with hk | hk | hk
        · refine .inl ⟨?_, fun x hx hx1 => ?_⟩
          · rw [hf k (by omega), List.getElem?_append_left (by rw [padTo_len]; omega)]
            unfold padTo
            rw [List.getElem?_append_right h1, List.getElem?_replicate, if_pos (by omega)]
          · rcases List.mem_cons.1 hx with rfl | hx
            · omega
            · have := hn x hx hx1; omega
        · exact .inr ⟨g, by simp, by omega, hk.symm⟩
        · rcases h.no k (by rw [hl]; omega) h2 with ⟨e1, e2⟩ | ⟨x, hx, e1⟩
          · refine .inl ⟨e1, fun x hx hx1 => ?_⟩
            rcases List.mem_cons.1 hx with rfl | hx
            · omega
            · exact e2 x hx hx1
          · exact .inr ⟨x, List.mem_cons_of_mem _ hx, e1⟩
      · rcases List.mem_cons.1 hx with rfl | hx
        · intro e
          have h3 := h.from_ x.w.toNat (by rw [hl]; omega)
          rw [hat, List.getElem?_eq_none (by omega)] at h3
          cases h3
        · exact h.off k h1 x hx hx1
      · rcases h.last with e | e
        · refine ⟨g.t, ?_, by unfold RightR at hg; omega⟩
          rw [e]
          simp
        · exact e
end Go.Proofs.Ytkkmleglaljacaa
