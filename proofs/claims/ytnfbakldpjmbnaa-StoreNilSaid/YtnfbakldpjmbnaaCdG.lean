/- Plain law: the two readers take up the same; what is written is read. -/
import Derived.Test.YtnfbakldpjmbnaaCdPlain
namespace Go.Proofs.Ytnfbakldpjmbnaa.Cd

theorem rnumR_len (s : List UInt8) : (rnumR s).1.length ≤ s.length := by
  cases s with
  | nil => simp [rnumR]
  | cons h t =>
    simp only [rnumR]
    split
    · exact Nat.le_refl _
    · split
      · exact Nat.le_refl _
      · split
        · exact Nat.le_refl _
        · simp; omega
theorem num_rel {d s : List UInt8} {a : Nat} {e : Int} (h : e = 0 → s = d.drop a) :
    (rnumS s e).2.1 = (numS d a e).2.1 ∧ (rnumS s e).2.2 = (numS d a e).2.2 ∧ ((numS d a e).2.1 = 0 → (rnumS s e).1 = d.drop (numS d a e).1) ∧ (rnumS s e).1.length ≤ s.length := by
  unfold rnumS numS
  by_cases he : e = 0
  · rw [if_pos he, if_pos he, h he]
    obtain ⟨h1, h2, h3⟩ := rnum_num d a
    exact ⟨h1, h2, h3, rnumR_len _⟩
  · rw [if_neg he, if_neg he]
    exact ⟨rfl, rfl, fun h => absurd h he, Nat.le_refl _⟩
theorem text_rel {d s : List UInt8} {a : Nat} {e : Int} (h : e = 0 → s = d.drop a) (ha : a ≤ d.length) :
    (rtextS s e).2.1 = (textS d a e).2.1 ∧ (rtextS s e).2.2 = (textS d a e).2.2 ∧ ((textS d a e).2.1 = 0 → (rtextS s e).1 = d.drop (textS d a e).1) ∧ (rtextS s e).1.length ≤ s.length ∧ (textS d a e).1 ≤ d.length := by
  unfold rtextS textS
  by_cases he : e = 0
  · rw [if_pos he, if_pos he, h he]
    obtain ⟨h1, h2, h3⟩ := rnum_num d a
    have h4 := rnumR_len (d.drop a)
    have h5 := numR_le d a ha
    by_cases h6 : (numR d a).2.1 = 0
    · rw [if_pos h6, if_pos (h1.trans h6), h3 h6, h2]
      rw [h3 h6] at h4
      rw [List.length_drop]
      split
      · exact ⟨rfl, rfl, fun _ => rfl, h4, h5⟩
      · refine ⟨rfl, rfl, fun _ => ?_, ?_, ?_⟩
        · rw [List.drop_drop]
        · simp only [List.length_drop] at h4 ⊢; omega
        · simp only []; omega
    · rw [if_neg h6, if_neg (by rw [h1]; exact h6)]
      exact ⟨h1, rfl, fun h => absurd h h6, h4, h5⟩
  · rw [if_neg he, if_neg he]
    exact ⟨rfl, rfl, fun h => absurd h he, Nat.le_refl _, ha⟩
theorem end_rel {d s : List UInt8} {a : Nat} {e : Int} (h : e = 0 → s = d.drop a) (ha : a ≤ d.length) : rendS s e = endS d a e := by
  unfold rendS endS
  by_cases he : e = 0
  · rw [if_pos he, if_pos he, h he]
    by_cases hl : a < d.length
    · rw [if_pos hl, if_neg]
      intro hn
      have := congrArg List.length hn
      rw [List.length_drop, List.length_nil] at this
      omega
    · rw [if_neg hl, if_pos]
      exact List.drop_eq_nil_of_le (by omega)
  · rw [if_neg he, if_neg he]
theorem numS_le {d : List UInt8} {a : Nat} {e : Int} (ha : a ≤ d.length) : (numS d a e).1 ≤ d.length := by
  unfold numS
  split
  · exact numR_le d a ha
  · exact ha
theorem num_is (d : List UInt8) (h : (numR d 0).2.1 = 0) :
    d.take (numR d 0).1 = numU (numR d 0).2.2 ∧ (numU (numR d 0).2.2).length = (numR d 0).1 ∧ (numR d 0).1 ≤ d.length := by
  have hle := numR_le d 0 (Nat.zero_le _)
  unfold numR at h ⊢
  rw [List.drop_zero] at h ⊢
  cases d with
  | nil => simp at h
  | cons c t =>
    simp only [] at h ⊢
    by_cases h1 : 8 < c.toNat
    · rw [if_pos h1] at h; simp at h
    rw [if_neg h1] at h ⊢
    by_cases h2 : t.length < c.toNat
    · rw [if_pos h2] at h; simp at h
    rw [if_neg h2] at h ⊢
    by_cases h3 : (t.take c.toNat).head? = some 0
    · rw [if_pos h3] at h; simp at h
    rw [if_neg h3]
    have hl : (t.take c.toNat).length = c.toNat := by rw [List.length_take]; omega
    have hd : (digs (foldB (t.take c.toNat))).map UInt8.ofNat = t.take c.toNat := digsF_foldB 8 _ (by omega) h3
    have hdl : (digs (foldB (t.take c.toNat))).length = c.toNat := by
      have := congrArg List.length hd
      rw [List.length_map, hl] at this
      exact this
    have hn : numU (foldB (t.take c.toNat)) = c :: t.take c.toNat := by
      unfold numU
      rw [hd, hdl]
      congr 1
      simp
    simp only []
    rw [hn]
    refine ⟨?_, by simp; omega, by simp; omega⟩
    rw [show 0 + 1 + c.toNat = c.toNat + 1 by omega, List.take_succ_cons]
end Go.Proofs.Ytnfbakldpjmbnaa.Cd
