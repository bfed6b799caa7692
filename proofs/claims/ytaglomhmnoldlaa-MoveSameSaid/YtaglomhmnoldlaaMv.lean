/- A state in memory; Insert. -/
import Derived.Test.YtaglomhmnoldlaaMq
namespace Go.Proofs.Ytaglomhmnoldlaa
open Go.RowKit
attribute [local go_sem] bs_size bs_getElem bs_list bs_append

/-- blocks other than a state's own are as they were -/
structure KeepV (w w' : World) (p m : Nat) (v : Value) : Prop where
  os : w'.os = w.os
  tape : w'.tape = w.tape
  output : w'.output = w.output
  size : w.heap.size ≤ w'.heap.size
  block : ∀ i, i < w.heap.size → i ≠ p → i ≠ m → some i ≠ v.ownBlock → w'.heap[i]? = w.heap[i]?
section
variable {w w' w2 : World} {p m : Nat} {v v' : Value}
theorem KeepV.refl (w : World) (p m : Nat) (v : Value) : KeepV w w p m v := ⟨rfl, rfl, rfl, Nat.le_refl _, fun _ _ _ _ _ => rfl⟩
theorem KeepV.trans (h : KeepV w w' p m v) (k : KeepV w' w2 p m v') (hv : ∀ g, v'.ownBlock = some g → v.ownBlock = some g ∨ w.heap.size ≤ g) : KeepV w w2 p m v :=
  ⟨k.os.trans h.os, k.tape.trans h.tape, k.output.trans h.output, Nat.le_trans h.size k.size, fun i hi h1 h2 h3 => (k.block i (Nat.lt_of_lt_of_le hi h.size) h1 h2 (fun e => by
    rcases hv i e.symm with h4 | h4
    · exact h3 h4.symm
    · omega)).trans (h.block i hi h1 h2 h3)⟩
theorem KeepV.below (h : KeepV w w' p m v) (k : Below w'.heap.size w' w2) : KeepV w w2 p m v :=
  ⟨k.os.trans h.os, k.tape.trans h.tape, k.output.trans h.output, Nat.le_trans h.size k.size, fun i hi h1 h2 h3 => (k.block i (Nat.lt_of_lt_of_le hi h.size)).trans (h.block i hi h1 h2 h3)⟩
theorem KeepV.ofBelow (k : Below w.heap.size w w') (p m : Nat) (v : Value) : KeepV w w' p m v := (KeepV.refl w p m v).below k
theorem KeepV.grown {g : Nat} (h : KeepV w w' p m v) (k : w'.grownBy w2 (some g)) (hg : g = p ∨ g = m ∨ v.ownBlock = some g ∨ w.heap.size ≤ g) : KeepV w w2 p m v :=
  ⟨k.os.trans h.os, k.tape.trans h.tape, k.output.trans h.output, Nat.le_trans h.size k.size, fun i hi h1 h2 h3 => (k.block i (Nat.lt_of_lt_of_le hi h.size) (fun e => by
    have e' : i = g := Option.some.inj e
    subst e'
    rcases hg with hg | hg | hg | hg
    · exact h1 hg
    · exact h2 hg
    · exact h3 hg.symm
    · omega)).trans (h.block i hi h1 h2 h3)⟩
theorem KeepV.grownO (h : KeepV w w' p m v) (k : w'.grownBy w2 v'.ownBlock) (hv : ∀ g, v'.ownBlock = some g → v.ownBlock = some g ∨ w.heap.size ≤ g) : KeepV w w2 p m v :=
  ⟨k.os.trans h.os, k.tape.trans h.tape, k.output.trans h.output, Nat.le_trans h.size k.size, fun i hi h1 h2 h3 => (k.block i (Nat.lt_of_lt_of_le hi h.size) (fun e => by
    rcases hv i e.symm with h4 | h4
    · exact h3 h4.symm
    · omega)).trans (h.block i hi h1 h2 h3)⟩
theorem KeepV.toBelow (h : KeepV w w' p m v) {B : Nat} (hB : B ≤ w.heap.size) (hp : B ≤ p) (hm : B ≤ m) (hv : ∀ g, v.ownBlock = some g → B ≤ g) : Below B w w' :=
  ⟨h.os, h.tape, h.output, h.size, fun i hi => h.block i (by omega) (by omega) (by omega) (fun e => by have := hv i e.symm; omega)⟩
end
theorem Keep2.toV {w w' : World} {g p m : Nat} {v : Value} (h : Keep2 w w' g m) (hv : v.ownBlock = some g) : KeepV w w' p m v :=
  ⟨h.os, h.tape, h.output, h.size, fun i hi _ h2 h3 => h.block i hi (fun e => h3 (by rw [hv, e])) h2⟩

/-- a log of records R, nodes es: in memory -/
structure St3 (w : World) (B p m : Nat) (v : Value) (r : Int) (R : List Rec) (es : List Nd) : Prop where
  stt : Stt w p m v r es
  log : Log w B v R
  nep : v.ownBlock ≠ some p
  nem : v.ownBlock ≠ some m
theorem St3.below {w w' : World} {B p m : Nat} {v : Value} {r : Int} {R : List Rec} {es : List Nd} (h : St3 w B p m v r R es) (hb : Below w.heap.size w w') : St3 w' B p m v r R es :=
  ⟨h.stt.below hb, OwnC.below h.log hb, h.nep, h.nem⟩
/-- a state that the operations L have made -/
structure Mov (w : World) (B p m : Nat) (v : Value) (r : Int) (L : List TOp) : Prop where
  s3 : St3 w B p m v r (recsOf L) (foldE L)
  sorted : Sorted L
  len : L.length ≤ 400
  p_ge : B ≤ p
  m_ge : B ≤ m
theorem Mov.below {w w' : World} {B p m : Nat} {v : Value} {r : Int} {L : List TOp} (h : Mov w B p m v r L) (hb : Below w.heap.size w w') : Mov w' B p m v r L := ⟨h.s3.below hb, h.sorted, h.len, h.p_ge, h.m_ge⟩

/-- the record at a place of the log, and that it may be written -/
theorem Log.at_ {w : World} {B : Nat} {v : Value} {R : List Rec} (h : Log w B v R) {k : Nat} (hk : k < R.length) :
    ∃ g c, v = .slice (some ⟨g, 0, none⟩) R.length c ∧ v.ownBlock = some g ∧ R.length ≤ c ∧ c ≤ 9223372036854775807 ∧ RecAt w g (k * 20) R[k] ∧ ∀ j, j < 20 → w.frozen? ⟨g, k * 20 + j, none⟩ = false := by
  rcases h.2 with ⟨rfl, h0⟩ | ⟨g, cap, rfl, hb, hlt, hnc, hcm, hs, hf, hx⟩
  · omega
  · refine ⟨g, cap, rfl, rfl, hnc, by unfold maxLen at hcm; omega, ⟨hlt, fun j u hu => hx _ u ?_⟩, fun j hj => hf _ (by omega)⟩
    have hj : j < 20 := by
      rcases Nat.lt_or_ge j 20 with h | h
      · exact h
      · rw [List.getElem?_eq_none (by rw [rc_len]; exact h)] at hu; cases hu
    rw [rcs_at R k j hk hj]
    exact hu
/-- one record is turned -/
theorem Log.set_ {w w' : World} {B g c : Nat} {R : List Rec} {k : Nat} {d : Rec} (h : Log w B (.slice (some ⟨g, 0, none⟩) R.length c) R) (hk : k < R.length) (hr : RecAt w' g (k * 20) d)
    (hout : ∀ j, (j < k * 20 ∨ k * 20 + 20 ≤ j) → w'.cell? ⟨g, j, none⟩ = w.cell? ⟨g, j, none⟩) (hfr : ∀ j, w'.frozen? ⟨g, j, none⟩ = w.frozen? ⟨g, j, none⟩) :
    Log w' B (.slice (some ⟨g, 0, none⟩) R.length c) (R.set k d) := by
  rcases h.2 with ⟨h0, _⟩ | ⟨g', cap, e, hb, hlt, hnc, hcm, hs, hf, hx⟩
  · cases h0
  · cases e
    refine ⟨by rw [rcs_len], .inr ⟨g, c, by rw [List.length_set], hb, hr.1, by rw [List.length_set]; exact hnc, hcm, fun j hj => ?_, fun j hj => by rw [hfr]; exact hf j hj, fun j u hu => ?_⟩⟩
    · rcases Nat.lt_or_ge j (k * 20) with h1 | h1
      · rw [hout j (.inl h1)]; exact hs j hj
      · rcases Nat.lt_or_ge j (k * 20 + 20) with h2 | h2
        · have hl : j - k * 20 < (rc d).length := by rw [rc_len]; omega
          have := hr.2 (j - k * 20) _ (List.getElem?_eq_getElem hl)
          rw [show k * 20 + (j - k * 20) = j from by omega] at this
          rw [this]; rfl
        · rw [hout j (.inr h2)]; exact hs j hj
    · have hjl : j < (rcs (R.set k d)).length := by
        rcases Nat.lt_or_ge j (rcs (R.set k d)).length with h | h
        · exact h
        · rw [List.getElem?_eq_none h] at hu; cases hu
      rw [rcs_len, List.length_set] at hjl
      have hq : j / 20 < R.length := by omega
      have hd : j = j / 20 * 20 + j % 20 := by omega
      rw [hd, rcs_at (R.set k d) (j / 20) (j % 20) (by rw [List.length_set]; exact hq) (by omega)] at hu
      by_cases hc : k = j / 20
      · subst hc
        rw [List.getElem_set_self] at hu
        have := hr.2 _ u hu
        rw [← hd] at this
        exact this
      · rw [List.getElem_set_ne hc] at hu
        rw [hout j (by omega)]
        refine hx j u ?_
        rw [hd, rcs_at R (j / 20) (j % 20) hq (by omega)]
        exact hu
/-- undo of the record at a place -/
theorem St3.undo {w w' : World} {B p m : Nat} {v : Value} {r : Int} {R : List Rec} {es es' : List Nd} (h : St3 w B p m v r R es) (hs : Stt w' p m v r es') (hg : w.grownBy w' (some m)) : St3 w' B p m v r R es' :=
  ⟨hs, OwnC.kept h.log hg (by
    cases hv : v.ownBlock with
    | none => exact .inl rfl
    | some g => exact .inr (fun e => h.nem (by rw [hv, e]))), h.nep, h.nem⟩
theorem St3.did {w w' : World} {B g c p m : Nat} {r : Int} {R : List Rec} {es es' : List Nd} {k : Nat} {d : Rec} (h : St3 w B p m (.slice (some ⟨g, 0, none⟩) R.length c) r R es) (hk : k < R.length) (hd : DidR w w' g (k * 20) p m (.slice (some ⟨g, 0, none⟩) R.length c) r d es') :
    St3 w' B p m (.slice (some ⟨g, 0, none⟩) R.length c) r (R.set k d) es' :=
  ⟨hd.stt, Log.set_ h.log hk hd.rec_ (fun j hj => hd.out j (by omega)) hd.frozen, h.nep, h.nem⟩
end Go.Proofs.Ytaglomhmnoldlaa
