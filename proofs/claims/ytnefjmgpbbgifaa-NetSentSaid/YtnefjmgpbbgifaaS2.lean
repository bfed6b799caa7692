/- Take and Twice of both nets, whatever the place. -/
import Derived.Test.YtnefjmgpbbgifaaS
namespace Go.Proofs.Ytnefjmgpbbgifaa
open Go.RowKit

def takeP (ps : List Pk) (k : Int) : Pk := if 0 ≤ k ∧ k < ps.length then ps.getD k.toNat pk0 else pk0
def takeC (ps : List Pk) (k : Int) : Int := if 0 ≤ k ∧ k < ps.length then 0 else 1
def takeL (ps : List Pk) (k : Int) : List Pk := if 0 ≤ k ∧ k < ps.length then ps.eraseIdx k.toNat else ps
def twiceC (ps : List Pk) (k : Int) : Int := if 0 ≤ k ∧ k < ps.length then (if 500 ≤ ps.length then 41 else 0) else 1
def twiceL (ps : List Pk) (k : Int) : List Pk := if 0 ≤ k ∧ k < ps.length then (if 500 ≤ ps.length then ps else ps ++ [ps.getD k.toNat pk0]) else ps

theorem take_any (gN : Nat) (d s : Int) (v : Value) (ps : List Pk) (k : Int) (w : World) (hN : NetI w gN d s v ps) (hm : ps.length ≤ 1000000) :
    Calls Try.prog 14 #[.pointer (some ⟨gN, 0, none⟩), .int .i64 k] w fun e w' => ∃ v', e = .returned (.tuple #[pv (takeP ps k), .int .i64 (takeC ps k)]) ∧ NetI w' gN d s v' (takeL ps k) ∧ Keeps (NS gN v) w w' ∧ At w v v' := by
  unfold takeP takeC takeL
  by_cases h : 0 ≤ k ∧ k < ps.length
  · obtain ⟨n, rfl⟩ : ∃ n : Nat, k = (n : Int) := ⟨k.toNat, by omega⟩
    have hn : n < ps.length := by omega
    simp only [if_pos h]
    refine (take_ok gN d s v ps n w hN hn hm).mono ?_
    rintro e w' ⟨v', rfl, hn', hk, ha⟩
    refine ⟨v', ?_, by simpa using hn', hk, At.of (.inl ha)⟩
    simp [hn]
  · simp only [if_neg h]
    refine (take_bad gN d s v ps k w hN (by omega) hm).mono ?_
    rintro e w' ⟨rfl, hb⟩
    exact ⟨v, rfl, hN.below hb, kp_below hb, At.refl _ _⟩
theorem rtake_any (gR : Nat) (d s : Int) (v : Value) (ps : List Pk) (k : Int) (w : World) (hN : RefI w gR d s v ps) (hm : ps.length ≤ 1000000) :
    Calls Try.prog 18 #[.pointer (some ⟨gR, 0, none⟩), .int .i64 k] w fun e w' => ∃ v', e = .returned (.tuple #[pv (takeP ps k), .int .i64 (takeC ps k)]) ∧ RefI w' gR d s v' (takeL ps k) ∧ Keeps (NS gR v) w w' ∧ At w v v' := by
  unfold takeP takeC takeL
  by_cases h : 0 ≤ k ∧ k < ps.length
  · obtain ⟨n, rfl⟩ : ∃ n : Nat, k = (n : Int) := ⟨k.toNat, by omega⟩
    have hn : n < ps.length := by omega
    simp only [if_pos h]
    refine (rtake_ok gR d s v ps n w hN hn hm).mono ?_
    rintro e w' ⟨v', rfl, hn', hk, ha⟩
    refine ⟨v', ?_, by simpa using hn', hk, ha⟩
    simp [hn]
  · simp only [if_neg h]
    refine (rtake_bad gR d s v ps k w hN (by omega)).mono ?_
    rintro e w' ⟨rfl, hb⟩
    exact ⟨v, rfl, hN.below hb, kp_below hb, At.refl _ _⟩
theorem twice_any (gN : Nat) (d s : Int) (v : Value) (ps : List Pk) (k : Int) (w : World) (hN : NetI w gN d s v ps) (hm : ps.length ≤ 1000000) :
    Calls Try.prog 15 #[.pointer (some ⟨gN, 0, none⟩), .int .i64 k] w fun e w' => ∃ v', e = .returned (.int .i64 (twiceC ps k)) ∧ NetI w' gN d s v' (twiceL ps k) ∧ Keeps (NS gN v) w w' ∧ At w v v' := by
  unfold twiceC twiceL
  by_cases h : 0 ≤ k ∧ k < ps.length
  · obtain ⟨n, rfl⟩ : ∃ n : Nat, k = (n : Int) := ⟨k.toNat, by omega⟩
    have hn : n < ps.length := by omega
    simp only [if_pos h]
    refine (twice_ok gN d s v ps n w hN hn hm).mono ?_
    rintro e w' ⟨v', rfl, hn', hk, ha⟩
    exact ⟨v', rfl, by simpa [hn] using hn', hk, At.of ha⟩
  · simp only [if_neg h]
    refine (twice_bad gN d s v ps k w hN (by omega) hm).mono ?_
    rintro e w' ⟨rfl, hb⟩
    exact ⟨v, rfl, hN.below hb, kp_below hb, At.refl _ _⟩
theorem rtwice_any (gR : Nat) (d s : Int) (v : Value) (ps : List Pk) (k : Int) (w : World) (hN : RefI w gR d s v ps) :
    Calls Try.prog 19 #[.pointer (some ⟨gR, 0, none⟩), .int .i64 k] w fun e w' => ∃ v', e = .returned (.int .i64 (twiceC ps k)) ∧ RefI w' gR d s v' (twiceL ps k) ∧ Keeps (NS gR v) w w' ∧ At w v v' := by
  unfold twiceC twiceL
  by_cases h : 0 ≤ k ∧ k < ps.length
  · obtain ⟨n, rfl⟩ : ∃ n : Nat, k = (n : Int) := ⟨k.toNat, by omega⟩
    have hn : n < ps.length := by omega
    simp only [if_pos h]
    by_cases hf : 500 ≤ ps.length
    · simp only [if_pos hf]
      refine (rtwice_full gR d s v ps n w hN hn hf).mono ?_
      rintro e w' ⟨rfl, rfl⟩
      exact ⟨v, rfl, hN, kp_refl _ _, At.refl _ _⟩
    · simp only [if_neg hf]
      refine (rtwice_ok gR d s v ps n w hN hn (by omega)).mono ?_
      rintro e w' ⟨v', rfl, hn', hk, ha⟩
      exact ⟨v', rfl, by simpa [hn] using hn', hk, ha⟩
  · simp only [if_neg h]
    refine (rtwice_bad gR d s v ps k w hN (by omega)).mono ?_
    rintro e w' ⟨rfl, rfl⟩
    exact ⟨v, rfl, hN, kp_refl _ _, At.refl _ _⟩
theorem sendL_len (d : Int) (ps : List Pk) (x : Pk) (h : ps.length ≤ 500) : (sendL d ps x).length ≤ 500 := by
  unfold sendL
  by_cases c : sendIs d ps.length x = 0
  · rw [if_pos c]
    unfold sendIs at c
    split at c
    · cases c
    · split at c
      · cases c
      · split at c
        · cases c
        · simp; omega
  · rw [if_neg c]; exact h
theorem sendS_le (d : Int) (n : Nat) (x : Pk) (s : Int) : s ≤ sendS d n x s ∧ sendS d n x s ≤ s + 1 := by unfold sendS; split <;> omega
theorem takeL_len (ps : List Pk) (k : Int) (h : ps.length ≤ 500) : (takeL ps k).length ≤ 500 := by
  unfold takeL
  split
  · exact Nat.le_trans (List.length_eraseIdx_le _ _) h
  · exact h
theorem twiceL_len (ps : List Pk) (k : Int) (h : ps.length ≤ 500) : (twiceL ps k).length ≤ 500 := by
  unfold twiceL
  split
  · split
    · exact h
    · simp; omega
  · exact h
/-- a call: what is asked, a packet, a number -/
structure Ask where
  a : Int
  p : Pk
  n : Int
def ask0 : Ask := ⟨0, pk0, 0⟩
instance : Inhabited Ask := ⟨ask0⟩
def AskC (cs : List Value) (x : Ask) : Prop := cs = [.int .i64 x.a, .int .i64 x.p.f, .int .i64 x.p.t, .string (bs x.p.d), .int .i64 x.n] ∧ x.p.d.length ≤ 9223372036854775807
theorem Sl.ask_at {w : World} {A : Option Addr} {n c k : Nat} {xs : List Ask} (h : Sl w 5 AskC A n c xs) (hk : k < xs.length) :
    ∃ b off, A = some ⟨b, off, none⟩ ∧ b < w.heap.size ∧ w.cell? ⟨b, off + k * 5, none⟩ = some (.int .i64 xs[k].a) ∧ w.cell? ⟨b, off + k * 5 + 1, none⟩ = some (.int .i64 xs[k].p.f) ∧ w.cell? ⟨b, off + k * 5 + 2, none⟩ = some (.int .i64 xs[k].p.t) ∧ w.cell? ⟨b, off + k * 5 + 3, none⟩ = some (.string (bs xs[k].p.d)) ∧ w.cell? ⟨b, off + k * 5 + 4, none⟩ = some (.int .i64 xs[k].n) ∧ xs[k].p.d.length ≤ 9223372036854775807 := by
  obtain ⟨b, off, cs, e, hlt, hl, ⟨rfl, hr⟩, hc⟩ := h.4 k hk
  exact ⟨b, off, e, hlt, by have := hc 0 _ rfl; simpa using this, hc 1 _ rfl, hc 2 _ rfl, hc 3 _ rfl, hc 4 _ rfl, hr⟩
end Go.Proofs.Ytnefjmgpbbgifaa
