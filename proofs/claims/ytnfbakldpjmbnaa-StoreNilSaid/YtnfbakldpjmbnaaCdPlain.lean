/- Plain law of the codec: numbers as bytes, and what a reader takes up. No program in sight. -/
import Derived.Lib.BitFns
import Derived.Laws.Strings
import Derived.Test.YtnfbakldpjmbnaaBs
namespace Go.Proofs.Ytnfbakldpjmbnaa.Cd

/-- the digits of base 256, the greatest first -/
def digsF : Nat → Nat → List Nat
  | 0, _ => []
  | f + 1, u => if u = 0 then [] else digsF f (u / 256) ++ [u % 256]
def digs (u : Nat) : List Nat := digsF 8 u
theorem digsF_lt : ∀ f u, ∀ d ∈ digsF f u, d < 256 := by
  intro f
  induction f with
  | zero => intro u d hd; exact absurd hd (by simp [digsF])
  | succ f ih =>
    intro u d hd
    unfold digsF at hd
    split at hd
    · exact absurd hd (by simp)
    · rcases List.mem_append.1 hd with h | h
      · exact ih _ _ h
      · simp at h; omega
theorem digsF_len : ∀ f u, (digsF f u).length ≤ f := by
  intro f
  induction f with
  | zero => intro u; simp [digsF]
  | succ f ih =>
    intro u
    unfold digsF
    split
    · simp
    · have := ih (u / 256); simp; omega
theorem digsF_get : ∀ f u j, j < (digsF f u).length → (digsF f u)[j]? = some (u / 256 ^ ((digsF f u).length - 1 - j) % 256) := by
  intro f
  induction f with
  | zero => intro u j hj; exact absurd hj (by simp [digsF])
  | succ f ih =>
    intro u j hj
    unfold digsF at hj ⊢
    split
    · rename_i h; rw [if_pos h] at hj; exact absurd hj (by simp)
    · rename_i h
      rw [if_neg h] at hj
      simp only [List.length_append, List.length_cons, List.length_nil] at hj ⊢
      by_cases hj2 : j < (digsF f (u / 256)).length
      · rw [List.getElem?_append_left hj2, ih _ _ hj2]
        congr 2
        rw [show (digsF f (u / 256)).length + (0 + 1) - 1 - j = ((digsF f (u / 256)).length - 1 - j) + 1 by omega, Nat.pow_succ, Nat.mul_comm, Nat.div_div_eq_div_mul]
      · have e : j = (digsF f (u / 256)).length := by omega
        subst e
        rw [List.getElem?_append_right (Nat.le_refl _)]
        simp
theorem digs_small {u : Nat} (h : u < 256) (h0 : u ≠ 0) : digs u = [u] := by
  have : u / 256 = 0 := by omega
  have hm : u % 256 = u := by omega
  simp [digs, digsF, h0, this, hm]
theorem len_digsF : ∀ f u, u < 256 ^ f → f ≤ 8 → (digsF f u).length = (Lib.bitLen u + 7) / 8 := by
  intro f
  induction f with
  | zero => intro u h _; simp at h; subst h; simp [digsF]; decide
  | succ f ih =>
    intro u h hf
    have hp : 256 ^ (f + 1) ≤ 256 ^ 8 := Nat.pow_le_pow_right (by omega) hf
    have h64 : u < 18446744073709551616 := by
      have : (256 : Nat) ^ 8 = 18446744073709551616 := by decide
      omega
    unfold digsF
    split
    · rename_i h0; subst h0; decide
    · rename_i h0
      rw [List.length_append, ih (u / 256) (by rw [Nat.pow_succ] at h; omega) (by omega)]
      by_cases h2 : 256 ≤ u
      · rw [Lib.bitLen_shift8 u h2 h64]; simp; omega
      · have e : u / 256 = 0 := by omega
        rw [e]
        have h1 : Lib.bitLen u ≤ 8 := Lib.bitLen_le8 ⟨u, by omega⟩
        have h3 : Lib.bitLen u = 1 + Lib.bitLen (u / 2) := Lib.bitLen_half u h0 (by omega)
        have h4 : Lib.bitLen 0 = 0 := by decide
        rw [h4]; simp; omega
theorem lt8 {u : Nat} (h : u < 18446744073709551616) : u < 256 ^ 8 := by
  have : (256 : Nat) ^ 8 = 18446744073709551616 := by decide
  omega
theorem len_digs {u : Nat} (h : u < 18446744073709551616) : (digs u).length = (Lib.bitLen u + 7) / 8 := len_digsF 8 u (lt8 h) (Nat.le_refl _)
theorem digs_len (u : Nat) : (digs u).length ≤ 8 := digsF_len 8 u

/-- a number's unsigned reading -/
def u64 (n : Int) : Nat := (n % 18446744073709551616).toNat
theorem u64_lt (n : Int) : u64 n < 18446744073709551616 := by unfold u64; omega
/-- a number as bytes -/
def numU (u : Nat) : List UInt8 := UInt8.ofNat (digs u).length :: (digs u).map UInt8.ofNat
def numL (n : Int) : List UInt8 := numU (u64 n)
def textL (s : List UInt8) : List UInt8 := numL s.length ++ s

/-- the number of bytes, the greatest first -/
def foldB (l : List UInt8) : Nat := l.foldl (fun u c => u * 256 + c.toNat) 0
theorem foldB_snoc (l : List UInt8) (c : UInt8) : foldB (l ++ [c]) = foldB l * 256 + c.toNat := by simp [foldB]
theorem foldB_lt : ∀ (k : Nat) (l : List UInt8), l.length = k → foldB l < 256 ^ k := by
  intro k
  induction k with
  | zero => intro l h; have : l = [] := List.length_eq_zero_iff.1 h; subst this; simp [foldB]
  | succ k ih =>
    intro l h
    have hne : l ≠ [] := by rintro rfl; simp at h
    obtain ⟨m, c, rfl⟩ : ∃ m c, l = m ++ [c] := ⟨l.dropLast, l.getLast hne, (List.dropLast_concat_getLast hne).symm⟩
    rw [foldB_snoc]
    have := ih m (by simpa using h)
    have hc : c.toNat < 256 := c.toNat_lt
    rw [Nat.pow_succ]; omega
theorem foldB_digsF : ∀ f u, u < 256 ^ f → foldB ((digsF f u).map UInt8.ofNat) = u := by
  intro f
  induction f with
  | zero => intro u h; simp at h; subst h; simp [digsF, foldB]
  | succ f ih =>
    intro u h
    unfold digsF
    split
    · rename_i h0; subst h0; simp [foldB]
    · rw [List.map_append, List.map_cons, List.map_nil, foldB_snoc, ih _ (by rw [Nat.pow_succ] at h; omega)]
      have : (UInt8.ofNat (u % 256)).toNat = u % 256 := by simp [UInt8.toNat_ofNat']
      rw [this]; omega
theorem foldB_digs {u : Nat} (h : u < 18446744073709551616) : foldB ((digs u).map UInt8.ofNat) = u := foldB_digsF 8 u (lt8 h)
/-- bytes that do not begin with 0 are the digits of their number -/
theorem digsF_foldB : ∀ (f : Nat) (l : List UInt8), l.length ≤ f → (l.head? ≠ some 0) → (digsF f (foldB l)).map UInt8.ofNat = l := by
  intro f
  induction f with
  | zero => intro l h _; have : l = [] := List.length_eq_zero_iff.1 (by omega); subst this; simp [digsF]
  | succ f ih =>
    intro l h h0
    by_cases hne : l = []
    · subst hne; simp [digsF, foldB]
    obtain ⟨m, c, rfl⟩ : ∃ m c, l = m ++ [c] := ⟨l.dropLast, l.getLast hne, (List.dropLast_concat_getLast hne).symm⟩
    have hc : c.toNat < 256 := c.toNat_lt
    have hm0 : m.head? ≠ some 0 := by
      cases m with
      | nil => simp
      | cons a m => simpa using h0
    have h1 := ih m (by simp at h; omega) hm0
    rw [foldB_snoc]
    unfold digsF
    have hd : (foldB m * 256 + c.toNat) / 256 = foldB m := by omega
    have hr : (foldB m * 256 + c.toNat) % 256 = c.toNat := by omega
    by_cases hz : foldB m * 256 + c.toNat = 0
    · exfalso
      have hm : foldB m = 0 := by omega
      rw [hm] at h1
      have : digsF f 0 = [] := by cases f <;> simp [digsF]
      rw [this] at h1
      simp at h1
      subst h1
      have hc0 : c = 0 := by
        have : c.toNat = 0 := by omega
        exact UInt8.toNat_inj.1 (by simpa using this)
      subst hc0
      simp at h0
    · rw [if_neg hz, hd, hr, List.map_append, h1]
      simp

/-- what a reader's number is: the place behind it, what is wrong, the number -/
def numR (d : List UInt8) (a : Nat) : Nat × Int × Nat :=
  match d.drop a with
  | [] => (a, 10, 0)
  | h :: t =>
    if 8 < h.toNat then (a + 1, 11, 0)
    else if t.length < h.toNat then (a + 1, 10, 0)
    else if (t.take h.toNat).head? = some 0 then (a + 1 + h.toNat, 11, 0)
    else (a + 1 + h.toNat, 0, foldB (t.take h.toNat))
theorem numR_le (d : List UInt8) (a : Nat) (ha : a ≤ d.length) : (numR d a).1 ≤ d.length := by
  unfold numR
  split
  · exact ha
  · rename_i h t hd
    have hlen : d.length - a = t.length + 1 := by rw [← List.length_drop, hd]; rfl
    split
    · simp only []; omega
    · split
      · simp only []; omega
      · split <;> (simp only []; omega)
theorem numR_lt (d : List UInt8) (a : Nat) : (numR d a).2.2 < 18446744073709551616 := by
  unfold numR
  split
  · show 0 < _; omega
  · rename_i h t hd
    split
    · show 0 < _; omega
    · split
      · show 0 < _; omega
      · split
        · show 0 < _; omega
        · rename_i h1 h2 h3
          have h4 := foldB_lt _ (t.take h.toNat) rfl
          have h5 : (256 : Nat) ^ (t.take h.toNat).length ≤ 256 ^ 8 := Nat.pow_le_pow_right (by omega) (by rw [List.length_take]; omega)
          have h6 : (256 : Nat) ^ 8 = 18446744073709551616 := by decide
          simp only []; omega
theorem numR_err (d : List UInt8) (a : Nat) : (numR d a).2.1 = 0 ∨ ((numR d a).2.1 = 10 ∨ (numR d a).2.1 = 11) ∧ (numR d a).2.2 = 0 := by
  unfold numR
  split
  · simp
  · split
    · simp
    · split
      · simp
      · split <;> simp

/-- a reader's state (its place, what is wrong), and what it takes up -/
def numS (d : List UInt8) (a : Nat) (e : Int) : Nat × Int × Nat := if e = 0 then numR d a else (a, e, 0)
def textS (d : List UInt8) (a : Nat) (e : Int) : Nat × Int × List UInt8 :=
  if e = 0 then
    if (numR d a).2.1 = 0 then
      if d.length - (numR d a).1 < (numR d a).2.2 then ((numR d a).1, 10, [])
      else ((numR d a).1 + (numR d a).2.2, 0, (d.drop (numR d a).1).take (numR d a).2.2)
    else ((numR d a).1, (numR d a).2.1, [])
  else (a, e, [])
def endS (d : List UInt8) (a : Nat) (e : Int) : Int := if e = 0 then if a < d.length then 12 else 0 else e
/-- an unsigned number as an int -/
def toI (u : Nat) : Int := ((u : Int) + 9223372036854775808) % 18446744073709551616 - 9223372036854775808
theorem u64_toI {u : Nat} (h : u < 18446744073709551616) : u64 (toI u) = u := by unfold u64 toI; omega
theorem toI_u64 {n : Int} (h : -9223372036854775808 ≤ n ∧ n ≤ 9223372036854775807) : toI (u64 n) = n := by unfold u64 toI; omega

/-- the document's reader: what is left, what is wrong -/
def rnumR (s : List UInt8) : List UInt8 × Int × Nat :=
  match s with
  | [] => ([], 10, 0)
  | h :: t =>
    if 8 < h.toNat then (h :: t, 11, 0)
    else if t.length < h.toNat then (h :: t, 10, 0)
    else if (t.take h.toNat).head? = some 0 then (h :: t, 11, 0)
    else (t.drop h.toNat, 0, foldB (t.take h.toNat))
def rnumS (s : List UInt8) (e : Int) : List UInt8 × Int × Nat := if e = 0 then rnumR s else (s, e, 0)
def rtextS (s : List UInt8) (e : Int) : List UInt8 × Int × List UInt8 :=
  if e = 0 then
    if (rnumR s).2.1 = 0 then
      if (rnumR s).1.length < (rnumR s).2.2 then ((rnumR s).1, 10, [])
      else ((rnumR s).1.drop (rnumR s).2.2, 0, (rnumR s).1.take (rnumR s).2.2)
    else ((rnumR s).1, (rnumR s).2.1, [])
  else (s, e, [])
def rendS (s : List UInt8) (e : Int) : Int := if e = 0 then if s = [] then 0 else 12 else e
theorem rnum_num (d : List UInt8) (a : Nat) : (rnumR (d.drop a)).2.1 = (numR d a).2.1 ∧ (rnumR (d.drop a)).2.2 = (numR d a).2.2 ∧ ((numR d a).2.1 = 0 → (rnumR (d.drop a)).1 = d.drop (numR d a).1) := by
  unfold numR
  cases hd : d.drop a with
  | nil => simp [rnumR]
  | cons h t =>
    simp only [rnumR]
    split
    · simp
    · split
      · simp
      · split
        · simp
        · refine ⟨rfl, rfl, fun _ => ?_⟩
          rw [← List.drop_drop, ← List.drop_drop, hd]
          simp
end Go.Proofs.Ytnfbakldpjmbnaa.Cd
