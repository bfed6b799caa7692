/- Lists of operations; few. -/
import Derived.Test.YthaekoeekpofpaaM
namespace Go.Proofs.Ythaekoeekpofpaa
open Go.RowKit
attribute [local go_sem] bs_size bs_getElem bs_list bs_append

def OpC (cs : List Value) (x : TOp) : Prop := cs = oc x ∧ x.nm.length ≤ 9223372036854775807 ∧ x.mf.length ≤ 9223372036854775807
/-- a list of operations -/
abbrev Ops (w : World) (A : Option Addr) (n c : Nat) (xs : List TOp) : Prop := Sl w 11 OpC A n c xs
theorem Ops.at_ {w : World} {A : Option Addr} {n c k : Nat} {xs : List TOp} (h : Ops w A n c xs) (hk : k < xs.length) :
    ∃ b off, A = some ⟨b, off, none⟩ ∧ b < w.heap.size ∧ w.cell? ⟨b, off + k * 11, none⟩ = some (.int .i64 xs[k].st.1) ∧ w.cell? ⟨b, off + k * 11 + 1, none⟩ = some (.int .i64 xs[k].st.2) ∧ w.cell? ⟨b, off + k * 11 + 2, none⟩ = some (.int .i64 xs[k].seq) ∧ w.cell? ⟨b, off + k * 11 + 3, none⟩ = some (.int .i64 xs[k].kind) ∧ w.cell? ⟨b, off + k * 11 + 4, none⟩ = some (.int .i64 xs[k].node.1) ∧ w.cell? ⟨b, off + k * 11 + 5, none⟩ = some (.int .i64 xs[k].node.2) ∧ w.cell? ⟨b, off + k * 11 + 6, none⟩ = some (.bool xs[k].dir) ∧ w.cell? ⟨b, off + k * 11 + 7, none⟩ = some (.int .i64 xs[k].par.1) ∧ w.cell? ⟨b, off + k * 11 + 8, none⟩ = some (.int .i64 xs[k].par.2) ∧ w.cell? ⟨b, off + k * 11 + 9, none⟩ = some (.string (bs xs[k].nm)) ∧ w.cell? ⟨b, off + k * 11 + 10, none⟩ = some (.string (bs xs[k].mf)) ∧ xs[k].nm.length ≤ 9223372036854775807 ∧ xs[k].mf.length ≤ 9223372036854775807 := by
  obtain ⟨b, off, cs, e, hlt, hl, ⟨rfl, hr1, hr2⟩, hc⟩ := h.4 k hk
  exact ⟨b, off, e, hlt, by have := hc 0 _ rfl; simpa using this, hc 1 _ rfl, hc 2 _ rfl, hc 3 _ rfl, hc 4 _ rfl, hc 5 _ rfl, hc 6 _ rfl, hc 7 _ rfl, hc 8 _ rfl, hc 9 _ rfl, hc 10 _ rfl, hr1, hr2⟩

set_option maxRecDepth 100000 in
set_option maxHeartbeats 1600000 in
theorem few_any (A : Option Addr) (n c : Nat) (xs : List TOp) (w : World) (hx : Ops w A n c xs) :
    Calls Try.prog 11 #[.slice A n c] w fun e w' => SomeR n e ∧ Below w.heap.size w w' := by
  have hn := hx.len
  have hmx := hx.max
  have hle := hx.le
  by_cases h150 : (n : Int) > 150
  · have hd : decide ((n : Int) > 150) = true := decide_eq_true h150
    clear h150 hx
    go_enter Try.func11, Try.ntmps11
    go_wp2_with fail
    go_ret
    exact ⟨⟨false, rfl, fun h => by cases h⟩, Below.refl _ _⟩
  have hd : decide ((n : Int) > 150) = false := decide_eq_false h150
  have hle150 : n ≤ 150 := by omega
  have HL := Lib.hid hle150
  have HX := Lib.hid hx
  clear hx h150 hle150
  go_enter Try.func11, Try.ntmps11
  go_wp2_with fail
  go_loopw [3] (fun i wr => ∃ k : Nat, k ≤ n ∧ i = .int .i64 k ∧ Below w.heap.size w wr) (fun i _ => n - (intOf i).toNat)
  case atStart => exact ⟨0, by omega, rfl, Below.refl _ _⟩
  case round =>
    obtain ⟨k, hk, rfl, hb⟩ := hrel
    rcases Nat.lt_or_ge k n with hlt | hge
    · have hki : (k : Int) < (n : Int) := by omega
      obtain ⟨b, off, rfl, hbl, c0, c1, c2, c3, c4, c5, c6, c7, c8, c9, c10, m1, m2⟩ := Ops.at_ (HX.out.below hb) (by omega : k < xs.length)
      generalize xs[k] = x at *
      have HB := Lib.hid hb
      clear hb
      cases e1 : decide (((x.nm.length : Nat) : Int) > 200) <;> cases e2 : decide (((x.mf.length : Nat) : Int) > 1000)
      all_goals go_wp2_with fail
      all_goals first
        | exact ⟨⟨k + 1, by omega, by go_num, HB.out⟩, by simp [intOf]; omega⟩
        | (go_ret; exact ⟨⟨false, rfl, fun h => by cases h⟩, HB.out⟩)
    · have hkn : ¬ (k : Int) < (n : Int) := by omega
      have HB := Lib.hid hb
      clear hb
      go_wp2_with fail
      go_ret
      exact ⟨⟨true, rfl, fun _ => HL.out⟩, HB.out⟩
end Go.Proofs.Ythaekoeekpofpaa
