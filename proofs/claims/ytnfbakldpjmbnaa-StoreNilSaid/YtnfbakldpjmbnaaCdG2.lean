/- Plain law: what is written one behind the other is read so, and not if a byte of it is missing. -/
import Derived.Test.YtnfbakldpjmbnaaCdG
namespace Go.Proofs.Ytnfbakldpjmbnaa.Cd

theorem digsF_head : ∀ f u, u < 256 ^ f → (digsF f u).head? ≠ some 0 := by
  intro f
  induction f with
  | zero => intro u _; simp [digsF]
  | succ f ih =>
    intro u h
    unfold digsF
    split
    · simp
    · rename_i h0
      by_cases h1 : u / 256 = 0
      · have : digsF f (u / 256) = [] := by rw [h1]; cases f <;> simp [digsF]
        rw [this]
        simp; omega
      · have h2 := ih (u / 256) (by rw [Nat.pow_succ] at h; omega)
        have hne : digsF f (u / 256) ≠ [] := by
          cases f with
          | zero => simp at h; omega
          | succ f => unfold digsF; rw [if_neg h1]; simp
        cases hd : digsF f (u / 256) with
        | nil => exact absurd hd hne
        | cons a l => rw [hd] at h2; simpa using h2
theorem ofNat_small {k : Nat} (h : k < 256) : (UInt8.ofNat k).toNat = k := by rw [UInt8.toNat_ofNat']; omega
theorem numU_length (u : Nat) : (numU u).length = (digs u).length + 1 := by simp [numU]
theorem num_app {d : List UInt8} {a u : Nat} {rest : List UInt8} (hu : u < 18446744073709551616) (h : d.drop a = numU u ++ rest) : numR d a = (a + (numU u).length, 0, u) := by
  have h8 := digs_len u
  have hk := ofNat_small (k := (digs u).length) (by omega)
  unfold numR
  rw [h]
  unfold numU
  simp only [List.cons_append, hk]
  rw [if_neg (by omega), if_neg (by simp)]
  have ht : ((digs u).map UInt8.ofNat ++ rest).take (digs u).length = (digs u).map UInt8.ofNat := by
    rw [List.take_append_of_le_length (by simp), List.take_of_length_le (by simp)]
  rw [ht]
  have hh : ((digs u).map UInt8.ofNat).head? ≠ some 0 := by
    have h1 := digsF_head 8 u (lt8 hu)
    cases hd : digs u with
    | nil => simp
    | cons x l =>
      unfold digs at hd
      rw [hd] at h1
      simp at h1 ⊢
      intro e
      have hx := digsF_lt 8 u x (by rw [hd]; simp)
      have := congrArg UInt8.toNat e
      rw [ofNat_small hx] at this
      exact h1 this
  rw [if_neg hh, foldB_digs hu]
  simp; omega
theorem take_app_ge {l r : List UInt8} {j : Nat} (h : l.length ≤ j) : (l ++ r).take j = l ++ r.take (j - l.length) := by
  rw [List.take_append, List.take_of_length_le h]
theorem num_cut {d : List UInt8} {a u j : Nat} (h : d.drop a = (numU u).take j) (hj : j < (numU u).length) : (numR d a).2.1 = 10 := by
  have h8 := digs_len u
  have hk := ofNat_small (k := (digs u).length) (by omega)
  rw [numU_length] at hj
  unfold numR
  rw [h]
  cases j with
  | zero => simp
  | succ j =>
    unfold numU
    simp only [List.take_succ_cons, hk]
    rw [if_neg (by omega), if_pos (by rw [List.length_take]; simp; omega)]
theorem text_app {d : List UInt8} {a : Nat} {t rest : List UInt8} (hl : t.length ≤ 9223372036854775807) (h : d.drop a = textL t ++ rest) : textS d a 0 = (a + (textL t).length, 0, t) := by
  have hu : u64 (t.length : Int) = t.length := by unfold u64; omega
  unfold textL numL at h ⊢
  rw [hu] at h ⊢
  rw [List.append_assoc] at h
  have hn := num_app (by omega) h
  have hlen := congrArg List.length h
  simp only [List.length_drop, List.length_append] at hlen
  unfold textS
  rw [if_pos rfl, hn]
  simp only [if_true]
  rw [if_neg (by omega)]
  rw [← List.drop_drop, h, List.drop_left, List.take_left]
  simp [Nat.add_assoc]
theorem text_cut {d : List UInt8} {a j : Nat} {t : List UInt8} (hl : t.length ≤ 9223372036854775807) (h : d.drop a = (textL t).take j) (hj : j < (textL t).length) : (textS d a 0).2.1 = 10 := by
  have hu : u64 (t.length : Int) = t.length := by unfold u64; omega
  unfold textL numL at h hj
  rw [hu] at h hj
  rw [List.length_append] at hj
  unfold textS
  rw [if_pos rfl]
  by_cases h1 : j < (numU t.length).length
  · rw [List.take_append_of_le_length (by omega)] at h
    have := num_cut h h1
    rw [if_neg (by rw [this]; decide)]
    exact this
  · have h2 : (numU t.length ++ t).take j = numU t.length ++ t.take (j - (numU t.length).length) := by
      rw [List.take_append, List.take_of_length_le (by omega)]
    rw [h2] at h
    have hn := num_app (by omega) h
    have hlen := congrArg List.length h
    simp only [List.length_drop, List.length_append, List.length_take] at hlen
    rw [hn]
    simp only [if_true]
    rw [if_pos (by omega)]

def encN (xs : List Int) : List UInt8 := xs.flatMap numL
def encT (ts : List (List UInt8)) : List UInt8 := ts.flatMap textL
theorem encN_snoc (xs : List Int) (x : Int) : encN (xs ++ [x]) = encN xs ++ numL x := by simp [encN]
theorem encT_snoc (ts : List (List UInt8)) (t : List UInt8) : encT (ts ++ [t]) = encT ts ++ textL t := by simp [encT]
theorem numL_len (n : Int) : 1 ≤ (numL n).length ∧ (numL n).length ≤ 9 := by
  unfold numL
  rw [numU_length]
  have := digs_len (u64 n)
  omega
theorem encN_len (xs : List Int) : xs.length ≤ (encN xs).length ∧ (encN xs).length ≤ 9 * xs.length := by
  induction xs with
  | nil => simp [encN]
  | cons x xs ih =>
    have := numL_len x
    have e : encN (x :: xs) = numL x ++ encN xs := rfl
    rw [e]; simp only [List.length_append, List.length_cons]; omega
theorem encT_len (ts : List (List UInt8)) (h : ∀ t ∈ ts, t.length ≤ 1000) : ts.length ≤ (encT ts).length ∧ (encT ts).length ≤ 1009 * ts.length := by
  induction ts with
  | nil => simp [encT]
  | cons x xs ih =>
    have h1 := numL_len x.length
    have h2 := ih (fun t ht => h t (by simp [ht]))
    have h3 := h x (by simp)
    have e : encT (x :: xs) = (numL x.length ++ x) ++ encT xs := rfl
    rw [e]; simp only [List.length_append, List.length_cons]; omega

/-- item k of what was written stands where the items ahead of it end -/
theorem encN_at (xs : List Int) (rest : List UInt8) {k : Nat} (hk : k < xs.length) : (encN xs ++ rest).drop (encN (xs.take k)).length = numL xs[k] ++ (encN (xs.drop (k + 1)) ++ rest) := by
  have e : encN xs = encN (xs.take k) ++ (numL xs[k] ++ encN (xs.drop (k + 1))) := by
    conv => lhs; rw [← List.take_append_drop k xs, List.drop_eq_getElem_cons hk]
    simp only [encN, List.flatMap_append, List.flatMap_cons]
  rw [e, List.append_assoc, List.drop_left, List.append_assoc]
theorem encT_at (pre : List UInt8) (ts : List (List UInt8)) {k : Nat} (hk : k < ts.length) : (pre ++ encT ts).drop (pre ++ encT (ts.take k)).length = textL ts[k] ++ encT (ts.drop (k + 1)) := by
  have e : encT ts = encT (ts.take k) ++ (textL ts[k] ++ encT (ts.drop (k + 1))) := by
    conv => lhs; rw [← List.take_append_drop k ts, List.drop_eq_getElem_cons hk]
    simp only [encT, List.flatMap_append, List.flatMap_cons]
  rw [e, ← List.append_assoc, List.drop_left]
theorem encN_take {xs : List Int} {k : Nat} (hk : k < xs.length) : encN (xs.take (k + 1)) = encN (xs.take k) ++ numL xs[k] := by
  rw [List.take_succ_eq_append_getElem hk, encN_snoc]
theorem encT_take {ts : List (List UInt8)} {k : Nat} (hk : k < ts.length) : encT (ts.take (k + 1)) = encT (ts.take k) ++ textL ts[k] := by
  rw [List.take_succ_eq_append_getElem hk, encT_snoc]

/-- a reader of a part of what was written: it stands where an item begins, or has come to its end too early -/
def Early (S : List UInt8) (m : Nat) (b : Nat) (a : Nat) (e : Int) : Prop := (e = 0 ∧ a = b ∧ b ≤ m) ∨ e = 10
theorem early_num {S : List UInt8} {m b a : Nat} {e : Int} {n : Int} {rest : List UInt8} (hm : m ≤ S.length) (h : Early S m b a e) (hS : S.drop b = numL n ++ rest) :
    Early S m (b + (numL n).length) (numS (S.take m) a e).1 (numS (S.take m) a e).2.1 := by
  rcases h with ⟨rfl, rfl, hb⟩ | rfl
  · unfold numS
    rw [if_pos rfl]
    have hd : (S.take m).drop a = (numL n ++ rest).take (m - a) := by rw [List.drop_take, hS]
    by_cases hc : a + (numL n).length ≤ m
    · rw [take_app_ge (by omega)] at hd
      rw [num_app (u64_lt n) hd]
      exact .inl ⟨rfl, rfl, hc⟩
    · rw [List.take_append_of_le_length (by omega)] at hd
      exact .inr (num_cut hd (by unfold numL at hc; omega))
  · right
    unfold numS
    rw [if_neg (by decide)]
theorem early_text {S : List UInt8} {m b a : Nat} {e : Int} {t rest : List UInt8} (hl : t.length ≤ 9223372036854775807) (hm : m ≤ S.length) (h : Early S m b a e) (hS : S.drop b = textL t ++ rest) :
    Early S m (b + (textL t).length) (textS (S.take m) a e).1 (textS (S.take m) a e).2.1 := by
  rcases h with ⟨rfl, rfl, hb⟩ | rfl
  · have hd : (S.take m).drop a = (textL t ++ rest).take (m - a) := by rw [List.drop_take, hS]
    by_cases hc : a + (textL t).length ≤ m
    · rw [take_app_ge (by omega)] at hd
      rw [text_app hl hd]
      exact .inl ⟨rfl, rfl, hc⟩
    · rw [List.take_append_of_le_length (by omega)] at hd
      exact .inr (text_cut hl hd (by omega))
  · right
    unfold textS
    rw [if_neg (by decide)]
theorem textS_le {d : List UInt8} {a : Nat} {e : Int} (ha : a ≤ d.length) : (textS d a e).1 ≤ d.length := (text_rel (s := d.drop a) (fun _ => rfl) ha).2.2.2.2
end Go.Proofs.Ytnfbakldpjmbnaa.Cd
