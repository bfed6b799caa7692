/- What stays behind a crash: plain. Lists of strings. -/
import Derived.Test.YticgcpbblefacaaDh
import Derived.Laws.BitsLemmas
namespace Go.Proofs.Yticgcpbblefacaa
open Go.RowKit

theorem i64_mask (n : Int) (m : Nat) (M : Int) (hm : m ≤ 62) (hM : (BitVec.ofInt 64 M).toNat = 2 ^ m - 1) : bits .and .i64 n M = n % ((2 ^ m : Nat) : Int) := by
  have key : (BitVec.ofInt 64 n &&& BitVec.ofInt 64 M).toNat = (n % ((2 ^ 64 : Nat) : Int)).toNat % 2 ^ m := by
    rw [BitVec.toNat_and, BitVec.toNat_ofInt, hM, Nat.and_two_pow_sub_one_eq_mod]
  show IntKind.i64.wrap ((BitVec.ofInt 64 n &&& BitVec.ofInt 64 M).toNat : Nat) = _
  rw [key, IntKind.wrap_i64]
  have hd : (2 ^ m : Nat) ∣ 2 ^ 64 := Nat.pow_dvd_pow 2 (by omega)
  have hle : 2 ^ m ≤ 2 ^ 62 := Nat.pow_le_pow_right (by decide) hm
  have hpos : 0 < 2 ^ m := Nat.pos_of_ne_zero (by simp)
  have hmod : ((n % ((2 ^ 64 : Nat) : Int)).toNat % 2 ^ m : Nat) = (n % ((2 ^ m : Nat) : Int)).toNat := by
    apply Int.ofNat_inj.1
    rw [Int.natCast_emod, Int.toNat_of_nonneg (Int.emod_nonneg _ (by decide)), Int.emod_emod_of_dvd _ (Int.natCast_dvd_natCast.2 hd), Int.toNat_of_nonneg (Int.emod_nonneg _ (by omega))]
  rw [hmod]
  have h1 := Int.emod_nonneg n (by omega : ((2 ^ m : Nat) : Int) ≠ 0)
  have h2 := Int.emod_lt_of_pos n (by omega : (0 : Int) < ((2 ^ m : Nat) : Int))
  have e62 : (2 : Nat) ^ 62 = 4611686018427387904 := by decide
  rw [e62] at hle
  omega
theorem and_one (n : Int) : bits .and .i64 n 1 = n % 2 := i64_mask n 1 1 (by decide) (by decide)
theorem and_all (n : Int) : bits .and .i64 n 1073741823 = n % 1073741824 := i64_mask n 30 1073741823 (by decide) (by decide)
theorem kbit_mod (n : Int) (i : Nat) : kbit n i = (n / 2 ^ (i % 30) % 2 == 1) := by unfold kbit; rw [and_one]
theorem pow_bit (n : Int) (h : n % 1073741824 = 1073741823) : ∀ i, i < 30 → n / 2 ^ i % 2 = 1
  | 0, _ => by
    have e : (2 : Int) ^ 0 = 1 := by decide
    rw [e]; omega
  | 1, _ => by
    have e : (2 : Int) ^ 1 = 2 := by decide
    rw [e]; omega
  | 2, _ => by
    have e : (2 : Int) ^ 2 = 4 := by decide
    rw [e]; omega
  | 3, _ => by
    have e : (2 : Int) ^ 3 = 8 := by decide
    rw [e]; omega
  | 4, _ => by
    have e : (2 : Int) ^ 4 = 16 := by decide
    rw [e]; omega
  | 5, _ => by
    have e : (2 : Int) ^ 5 = 32 := by decide
    rw [e]; omega
  | 6, _ => by
    have e : (2 : Int) ^ 6 = 64 := by decide
    rw [e]; omega
  | 7, _ => by
    have e : (2 : Int) ^ 7 = 128 := by decide
    rw [e]; omega
  | 8, _ => by
    have e : (2 : Int) ^ 8 = 256 := by decide
    rw [e]; omega
  | 9, _ => by
    have e : (2 : Int) ^ 9 = 512 := by decide
    rw [e]; omega
  | 10, _ => by
    have e : (2 : Int) ^ 10 = 1024 := by decide
    rw [e]; omega
  | 11, _ => by
    have e : (2 : Int) ^ 11 = 2048 := by decide
    rw [e]; omega
  | 12, _ => by
    have e : (2 : Int) ^ 12 = 4096 := by decide
    rw [e]; omega
  | 13, _ => by
    have e : (2 : Int) ^ 13 = 8192 := by decide
    rw [e]; omega
  | 14, _ => by
    have e : (2 : Int) ^ 14 = 16384 := by decide
    rw [e]; omega
  | 15, _ => by
    have e : (2 : Int) ^ 15 = 32768 := by decide
    rw [e]; omega
  | 16, _ => by
    have e : (2 : Int) ^ 16 = 65536 := by decide
    rw [e]; omega
  | 17, _ => by
    have e : (2 : Int) ^ 17 = 131072 := by decide
    rw [e]; omega
  | 18, _ => by
    have e : (2 : Int) ^ 18 = 262144 := by decide
    rw [e]; omega
  | 19, _ => by
    have e : (2 : Int) ^ 19 = 524288 := by decide
    rw [e]; omega
  | 20, _ => by
    have e : (2 : Int) ^ 20 = 1048576 := by decide
    rw [e]; omega
  | 21, _ => by
    have e : (2 : Int) ^ 21 = 2097152 := by decide
    rw [e]; omega
  | 22, _ => by
    have e : (2 : Int) ^ 22 = 4194304 := by decide
    rw [e]; omega
  | 23, _ => by
    have e : (2 : Int) ^ 23 = 8388608 := by decide
    rw [e]; omega
  | 24, _ => by
    have e : (2 : Int) ^ 24 = 16777216 := by decide
    rw [e]; omega
  | 25, _ => by
    have e : (2 : Int) ^ 25 = 33554432 := by decide
    rw [e]; omega
  | 26, _ => by
    have e : (2 : Int) ^ 26 = 67108864 := by decide
    rw [e]; omega
  | 27, _ => by
    have e : (2 : Int) ^ 27 = 134217728 := by decide
    rw [e]; omega
  | 28, _ => by
    have e : (2 : Int) ^ 28 = 268435456 := by decide
    rw [e]; omega
  | 29, _ => by
    have e : (2 : Int) ^ 29 = 536870912 := by decide
    rw [e]; omega
  | i + 30, hi => by omega
theorem kbit_all (n : Int) (h : n % 1073741824 = 1073741823) (i : Nat) : kbit n i = true := by
  rw [kbit_mod, pow_bit n h (i % 30) (Nat.mod_lt _ (by decide))]; rfl
theorem kept_all (f : Nat → Bool) (hf : ∀ i, f i = true) : ∀ (l : List Wr) (i : Nat), kept f i l = l
  | [], _ => rfl
  | a :: l, i => by unfold kept; rw [hf, if_pos rfl, kept_all f hf l (i + 1)]

def nm (j : Nat) : Bytes := [UInt8.ofNat (97 + j)]
theorem nm_inj {j k : Nat} (hj : j < 100) (hk : k < 100) (h : nm j = nm k) : j = k := by
  have h' : UInt8.ofNat (97 + j) = UInt8.ofNat (97 + k) := by simpa [nm] using h
  have := congrArg UInt8.toNat h'
  simp at this
  omega
def ws : Nat → List Bytes → List Wr
  | _, [] => []
  | j, s :: r => ⟨nm j, 0, s⟩ :: ws (j + 1) r
theorem ws_snoc (s : Bytes) : ∀ (l : List Bytes) (j : Nat), ws j (l ++ [s]) = ws j l ++ [⟨nm (j + l.length), 0, s⟩]
  | [], _ => rfl
  | b :: l, j => by
    simp only [List.cons_append, ws, ws_snoc s l (j + 1), List.length_cons]
    rw [show j + 1 + l.length = j + (l.length + 1) from by omega]
theorem ws_len : ∀ (l : List Bytes) (j : Nat), (ws j l).length = l.length
  | [], _ => rfl
  | _ :: l, j => by simp [ws, ws_len l (j + 1)]
theorem ws_mem {a : Wr} : ∀ {l : List Bytes} {j : Nat}, a ∈ ws j l → a.at_ = 0 ∧ a.data ∈ l
  | [], _, h => by cases h
  | s :: l, j, h => by
    rcases List.mem_cons.1 h with rfl | h
    · exact ⟨rfl, by simp⟩
    · exact ⟨(ws_mem h).1, List.mem_cons_of_mem _ (ws_mem h).2⟩
def lastI (f : Nat → Bool) : Nat → Int
  | 0 => -1
  | n + 1 => if f n then n else lastI f n
theorem lastI_lt (f : Nat → Bool) : ∀ n, lastI f n < n
  | 0 => by show (-1 : Int) < ((0 : Nat) : Int); decide
  | n + 1 => by
    have := lastI_lt f n
    unfold lastI
    split <;> omega
theorem runN_pre (fs : Files) (t : Bool) (ks : List Wr) (a : Wr) : ∀ j, j ≤ ks.length → runN fs t (ks ++ [a]) j = runN fs false ks j
  | 0, _ => rfl
  | j + 1, h => by
    have e1 : (ks ++ [a])[j]? = ks[j]? := List.getElem?_append_left (by omega)
    have e2 : ks[j]? = some ks[j] := List.getElem?_eq_getElem (by omega)
    have e3 : decide (j + 1 = (ks ++ [a]).length) = false := by simp; omega
    simp only [runN, e1, e2, e3, Bool.and_false, Bool.false_and, runN_pre fs t ks a j (by omega)]
theorem runN_snoc (fs : Files) (t : Bool) (ks : List Wr) (a : Wr) : runN fs t (ks ++ [a]) (ks ++ [a]).length = doneL (runN fs false ks ks.length) a t := by
  have e0 : (ks ++ [a]).length = ks.length + 1 := by simp
  rw [e0]
  have e1 : (ks ++ [a])[ks.length]? = some a := by simp
  have e2 : decide (ks.length + 1 = (ks ++ [a]).length) = true := by simp
  rw [runN, e1]
  simp only [e2, Bool.and_true]
  rw [runN_pre fs t ks a ks.length (Nat.le_refl _)]
def endG (f : Nat → Bool) (t : Bool) (l : List Bytes) : Files := runN [] t (kept f 0 (ws 0 l)) (kept f 0 (ws 0 l)).length
theorem endG_snoc (f : Nat → Bool) (t : Bool) (l : List Bytes) (s : Bytes) : endG f t (l ++ [s]) = if f l.length then doneL (endG f false l) ⟨nm l.length, 0, s⟩ t else endG f t l := by
  unfold endG
  rw [ws_snoc, kept_snoc, ws_len, Nat.zero_add]
  cases f l.length with
  | true => rw [if_pos rfl, if_pos rfl, runN_snoc]
  | false => rw [if_neg (by decide), if_neg (by decide), List.append_nil]
theorem laid_first' (s : Bytes) : laidL [] 0 s = s := by simp [laidL, zeros]
theorem endG_get (f : Nat → Bool) (l : List Bytes) : ∀ (n : Nat), n ≤ l.length → n ≤ 20 → ∀ t : Bool,
    (∀ (j : Nat) (hj : j < n) (h : j < l.length), get (endG f t (l.take n)) (nm j) = if f j then some (half (t && decide ((j : Int) = lastI f n)) l[j]) else none) ∧ (∀ j, n ≤ j → j < 100 → get (endG f t (l.take n)) (nm j) = none)
  | 0, _, _, t => ⟨fun j hj => absurd hj (by omega), fun j _ _ => rfl⟩
  | n + 1, h1, h2, t => by
    have ih := fun t => endG_get f l n (by omega) (by omega) t
    have hn : n < l.length := by omega
    have e1 : l.take (n + 1) = l.take n ++ [l[n]] := List.take_succ_eq_append_getElem hn
    have e2 : (l.take n).length = n := by rw [List.length_take]; omega
    rw [e1, endG_snoc, e2]
    cases hf : f n with
    | true =>
      rw [if_pos rfl]
      have h0 := (ih false).2 n (Nat.le_refl _) (by omega)
      have hd : doneL (endG f false (l.take n)) ⟨nm n, 0, l[n]⟩ t = put (endG f false (l.take n)) (nm n) (half t l[n]) := by
        unfold doneL
        simp only [h0, Option.getD_none]
        rw [laid_first']
      rw [hd]
      refine ⟨fun j hj h => ?_, fun j hj hj2 => ?_⟩
      · rw [get_put]
        have hl : lastI f (n + 1) = n := by unfold lastI; rw [hf]; rfl
        rw [hl]
        by_cases c : j = n
        · subst c
          rw [if_pos rfl, hf, if_pos rfl]
          simp
        · rw [if_neg (fun e => c (nm_inj (by omega) (by omega) e.symm)), (ih false).1 j (by omega) h]
          have : decide ((j : Int) = (n : Int)) = false := by simp; omega
          rw [this]
          simp
      · rw [get_put, if_neg (fun e => by have := nm_inj (by omega) (by omega) e; omega), (ih false).2 j (by omega) hj2]
    | false =>
      rw [if_neg (by decide)]
      have hl : lastI f (n + 1) = lastI f n := by rw [lastI, hf]; rfl
      refine ⟨fun j hj h => ?_, fun j hj hj2 => (ih t).2 j (by omega) hj2⟩
      rw [hl]
      by_cases c : j = n
      · subst c
        rw [hf, (ih t).2 j (Nat.le_refl _) (by omega)]
        rfl
      · exact (ih t).1 j (by omega) h
theorem tot_put : ∀ (fs : Files) (k v : Bytes), tot (put fs k v) + ((get fs k).getD []).length = tot fs + v.length
  | [], k, v => by simp [put, tot, get, place]
  | e :: r, k, v => by
    unfold put
    by_cases c : e.1 = k
    · rw [if_pos c]
      simp only [get, place, if_pos c, tot, List.map_cons, List.sum_cons, Option.map_some, Option.getD_some]
      omega
    · have ih := tot_put r k v
      rw [if_neg c]
      simp only [get, place, if_neg c, tot, List.map_cons, List.sum_cons, Option.map_map, Function.comp_def] at ih ⊢
      omega
theorem tot_done (fs : Files) (a : Wr) (t : Bool) : tot (doneL fs a t) ≤ tot fs + (a.at_ + a.data.length) := by
  have h := tot_put fs a.name (laidL ((get fs a.name).getD []) a.at_ (half t a.data))
  have h2 := half_len t a.data
  rw [laid_len] at h
  unfold doneL
  omega

/-! ### lists of strings -/
def StC (cs : List Value) (s : List UInt8) : Prop := cs = [.string (bs s)] ∧ s.length ≤ 9223372036854775807
abbrev Strs (w : World) (A : Option Addr) (n c : Nat) (xs : List (List UInt8)) : Prop := Sl w 1 StC A n c xs
theorem Strs.at_ {w : World} {A : Option Addr} {n c k : Nat} {xs : List (List UInt8)} (h : Strs w A n c xs) (hk : k < xs.length) :
    ∃ b off, A = some ⟨b, off, none⟩ ∧ b < w.heap.size ∧ w.cell? ⟨b, off + k, none⟩ = some (.string (bs xs[k])) ∧ xs[k].length ≤ 9223372036854775807 := by
  obtain ⟨b, off, cs, e, hlt, hl, ⟨rfl, hm⟩, hc⟩ := h.4 k hk
  refine ⟨b, off, e, hlt, ?_, hm⟩
  have := hc 0 _ rfl
  simpa using this
end Go.Proofs.Yticgcpbblefacaa
