/- What was synced stays: plain; a write of the law's, alive or dead. -/
import Derived.Test.YticgcpbblefacaaDp
namespace Go.Proofs.Yticgcpbblefacaa
open Go.RowKit

def fileF' : Bytes := [102]
def fileG : Bytes := [103]
def ActOK (t : Bytes) (a : Wr) : Prop := ((a.name = fileF' ∧ t.length ≤ a.at_) ∨ a.name = fileG) ∧ a.at_ ≤ 2000 ∧ a.data.length ≤ 1000
def HasPre (t : Bytes) (fs : Files) : Prop := ∃ u, get fs fileF' = some (t ++ u)
theorem HasPre.done {t : Bytes} {fs : Files} {a : Wr} (h : HasPre t fs) (ha : ActOK t a) (tr : Bool) : HasPre t (doneL fs a tr) := by
  obtain ⟨u, hu⟩ := h
  rcases ha.1 with ⟨hn, hk⟩ | hn
  · unfold doneL
    rw [hn, hu]
    refine ⟨(((t ++ u) ++ zeros (a.at_ - (t ++ u).length)).take a.at_).drop t.length ++ (half tr a.data ++ ((t ++ u) ++ zeros (a.at_ - (t ++ u).length)).drop (min ((t ++ u) ++ zeros (a.at_ - (t ++ u).length)).length (a.at_ + (half tr a.data).length))), ?_⟩
    rw [get_put, if_pos rfl]
    simp only [Option.getD_some, laidL]
    congr 1
    rw [List.append_assoc, ← List.append_assoc t, List.append_assoc t u]
    congr 1
    rw [List.take_append, List.take_of_length_le hk]
    simp
  · refine ⟨u, ?_⟩
    unfold doneL
    rw [get_put, hn, if_neg (by decide), hu]
theorem HasPre.run {t : Bytes} {fs : Files} {l : List Wr} (h : HasPre t fs) (hl : ∀ a ∈ l, ActOK t a) (tr : Bool) : ∀ j, HasPre t (runN fs tr l j)
  | 0 => h
  | j + 1 => by
    unfold runN
    split
    · rename_i a ha
      exact (HasPre.run h hl tr j).done (hl a (List.mem_of_getElem? ha)) _
    · exact HasPre.run h hl tr j

structure LI (t : Bytes) (m : Nat) (st : DS) : Prop where
  lim : st.limit = 1048576
  firm : st.firm = [(fileF', t)]
  acts : ∀ a ∈ st.acts, ActOK t a
  len : st.acts.length ≤ m
  tot_ : tot st.now ≤ 1000 + 3000 * m
  short : Short 4000 st.now
  live : st.dead = false → st.now = runN st.firm false st.acts st.acts.length
  armed : st.armed ≤ 9223372036854775807
theorem LI.step {t : Bytes} {m : Nat} {st : DS} {a : Wr} (h : LI t m st) (hd : st.dead = false) (ha : ActOK t a) : LI t (m + 1) (writeSt st a) := by
  obtain ⟨l, n, f, ac, ar, de⟩ := st
  obtain ⟨h1, h2, h3, h4, h5, h6, h7, h8⟩ := h
  simp only at h1 h2 h3 h4 h5 h6 h7 h8 hd
  subst hd
  have hnow := h7 rfl
  have hacts : ∀ b ∈ ac ++ [a], ActOK t b := by
    intro b hb
    rcases List.mem_append.1 hb with hb | hb
    · exact h3 b hb
    · rw [List.mem_singleton.1 hb]; exact ha
  have hlen : (ac ++ [a]).length ≤ m + 1 := by simp; omega
  have ht := tot_done n a false
  have hsz := ha.2
  have htot : tot (doneL n a false) ≤ 1000 + 3000 * (m + 1) := by omega
  have hsh : Short 4000 (doneL n a false) := h6.done (by omega) false
  have hrun : doneL n a false = runN f false (ac ++ [a]) (ac ++ [a]).length := by rw [runN_snoc, ← hnow]
  have e : writeSt ⟨l, n, f, ac, ar, false⟩ a = (if 0 < ar ∧ ar - 1 = 0 then ⟨l, n, f, ac ++ [a], ar - 1, true⟩ else if 0 < ar then ⟨l, doneL n a false, f, ac ++ [a], ar - 1, false⟩ else ⟨l, doneL n a false, f, ac ++ [a], ar, false⟩) := by
    by_cases c : 0 < ar
    · have hdd : diesSt ⟨l, n, f, ac ++ [a], ar, false⟩ = ⟨l, n, f, ac ++ [a], ar - 1, decide (ar - 1 = 0)⟩ := by unfold diesSt; rw [if_pos c]
      by_cases c1 : ar - 1 = 0
      · unfold writeSt; simp only [hdd]; simp [c, c1]
      · unfold writeSt; simp only [hdd]; simp [c, c1]
    · have hdd : diesSt ⟨l, n, f, ac ++ [a], ar, false⟩ = ⟨l, n, f, ac ++ [a], ar, false⟩ := by unfold diesSt; rw [if_neg c]
      unfold writeSt; simp only [hdd]; simp [c]
  rw [e]
  split
  · exact ⟨h1, h2, hacts, hlen, by show tot n ≤ _; omega, h6, (fun h => by cases h), by show ar - 1 ≤ _; omega⟩
  · split
    · exact ⟨h1, h2, hacts, hlen, htot, hsh, (fun _ => hrun), by show ar - 1 ≤ _; omega⟩
    · exact ⟨h1, h2, hacts, hlen, htot, hsh, (fun _ => hrun), h8⟩
theorem LI.mono {t : Bytes} {m : Nat} {st : DS} (h : LI t m st) : LI t (m + 1) st :=
  ⟨h.lim, h.firm, h.acts, Nat.le_succ_of_le h.len, by have := h.tot_; omega, h.short, h.live, h.armed⟩
/-- a write onto the law's disk -/
theorem write_law {B d nb fb m : Nat} {v : Value} {st : DS} {w : World} {t : Bytes} (a : Wr) (h : Dsk B w d nb fb v st) (hI : LI t m st) (hm : m ≤ 90) (ha : ActOK t a) :
    Calls Try.prog 10 #[.pointer (some ⟨d, 0, none⟩), .string (bs a.name), .int .i64 (a.at_ : Nat), .string (bs a.data)] w fun e w' => ∃ code v' st', e = .returned (.int .i64 code) ∧ LI t (m + 1) st' ∧ Dsk B w' d nb fb v' st' ∧ Below B w w' ∧ Fr w w' := by
  have hB : B ≤ w.heap.size := Nat.le_of_lt (Nat.lt_of_le_of_lt h.bd h.blk.lt)
  cases hd : st.dead with
  | true =>
    refine (write_dead a.name a.data (a.at_ : Nat) h hd).mono ?_
    rintro e w' ⟨he, hb⟩
    exact ⟨42, v, st, he, hI.mono, h.later hb, hb.mono hB, Fr.below hb⟩
  | false =>
    have hnl : a.name.length = 1 := by rcases ha.1 with ⟨e, _⟩ | e <;> rw [e] <;> rfl
    have h1 := hI.tot_
    have h2 := hI.len
    have h3 := ha.2
    refine (write_fr a h hd (by omega) (by omega) (by rw [hI.lim]; omega) (by rw [hI.lim]; decide) (by omega) hI.armed (fun e he => Nat.le_trans (hI.short e he) (by decide)) (by omega) (by omega) (by rw [hI.lim]; omega)).mono ?_
    rintro e w' ⟨v', he, hdk, hb, hf⟩
    exact ⟨_, v', _, he, hI.step hd ha, hdk, hb, hf⟩

/-! ### the law's calls -/
structure OpR where
  ask : Int
  name : Bytes
  n : Int
  data : Bytes
  torn : Bool
instance : Inhabited OpR := ⟨⟨0, [], 0, [], false⟩⟩
def OpC (cs : List Value) (x : OpR) : Prop := cs = [.int .i64 x.ask, .string (bs x.name), .int .i64 x.n, .string (bs x.data), .bool x.torn] ∧ x.data.length ≤ 9223372036854775807
theorem Sl.op_at {w : World} {A : Option Addr} {n c k : Nat} {xs : List OpR} (h : Sl w 5 OpC A n c xs) (hk : k < xs.length) :
    ∃ b off, A = some ⟨b, off, none⟩ ∧ b < w.heap.size ∧ w.cell? ⟨b, off + k * 5, none⟩ = some (.int .i64 xs[k].ask) ∧ w.cell? ⟨b, off + k * 5 + 1, none⟩ = some (.string (bs xs[k].name)) ∧ w.cell? ⟨b, off + k * 5 + 2, none⟩ = some (.int .i64 xs[k].n) ∧ w.cell? ⟨b, off + k * 5 + 3, none⟩ = some (.string (bs xs[k].data)) ∧ w.cell? ⟨b, off + k * 5 + 4, none⟩ = some (.bool xs[k].torn) ∧ xs[k].data.length ≤ 9223372036854775807 := by
  obtain ⟨b, off, cs, e, hlt, hl, ⟨rfl, hr⟩, hc⟩ := h.4 k hk
  exact ⟨b, off, e, hlt, by have := hc 0 _ rfl; simpa using this, hc 1 _ rfl, hc 2 _ rfl, hc 3 _ rfl, hc 4 _ rfl, hr⟩
end Go.Proofs.Yticgcpbblefacaa
