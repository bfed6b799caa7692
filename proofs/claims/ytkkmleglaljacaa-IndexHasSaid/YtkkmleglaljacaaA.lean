/- Ranges in memory; the small functions: right, Right, the order of two ranges. -/
import Derived.Test.YtkkmleglaljacaaRows
import Derived.Test.YtkkmleglaljacaaWords
import Derived.Test.YtkkmleglaljacaaOwnC
import Derived.Test.YtkkmleglaljacaaPv
import Derived.Laws.LoneSync
import Derived.Deep.RegionHeld3
import Derived.Deep.RegionLaw
import Derived.Deep.Upon
import Derived.Sort.Grow
import Derived.Shelf.SlSortCmp.QuietGrown
namespace Go.Proofs.Ytkkmleglaljacaa
open Go.RowKit

def rc (x : Rg) : List Value := [.int .i64 x.w, .int .i64 x.f, .int .i64 x.t]
def rv (x : Rg) : Value := .agg #[.int .i64 x.w, .int .i64 x.f, .int .i64 x.t]
def rcs (l : List Rg) : List Value := l.flatMap rc
theorem rcs_append (a b : List Rg) : rcs (a ++ b) = rcs a ++ rcs b := by simp [rcs]
theorem rcs_len (l : List Rg) : (rcs l).length = l.length * 3 := by
  induction l with
  | nil => rfl
  | cons x l ih => simp only [rcs, List.flatMap_cons, List.length_append, List.length_cons] at ih ⊢; rw [ih]; simp [rc]; omega
theorem rcs_one (l : List Rg) : ∀ u ∈ rcs l, u.oneCell' = true := by
  intro u hu
  obtain ⟨x, _, hu⟩ := List.mem_flatMap.1 hu
  simp [rc] at hu
  rcases hu with rfl | rfl | rfl <;> rfl
theorem rcs_take (l : List Rg) (k : Nat) : (rcs l).take (k * 3) = rcs (l.take k) := by
  induction l generalizing k with
  | nil => simp [rcs]
  | cons x l ih =>
    cases k with
    | zero => simp [rcs]
    | succ k =>
      have := ih k
      simp only [rcs, List.flatMap_cons, List.take_succ_cons] at this ⊢
      rw [← this]
      simp [rc, Nat.succ_mul]
theorem rcs_at (l : List Rg) (k j : Nat) (hk : k < l.length) (hj : j < 3) : (rcs l)[k * 3 + j]? = (rc l[k])[j]? := by
  induction l generalizing k with
  | nil => simp at hk
  | cons x l ih =>
    cases k with
    | zero =>
      simp only [rcs, List.flatMap_cons]
      rw [List.getElem?_append_left (by simp [rc]; omega)]
      simp
    | succ k =>
      have := ih k (by simpa using hk)
      simp only [rcs, List.flatMap_cons] at this ⊢
      rw [List.getElem?_append_right (by simp [rc]; omega)]
      rw [show (k + 1) * 3 + j - (rc x).length = k * 3 + j from by simp [rc]; omega, this]
      simp
/-- all three within an int -/
def R64 (x : Rg) : Prop := I64 x.w ∧ I64 x.f ∧ I64 x.t
theorem RightR.r64 {x : Rg} (h : RightR x) : R64 x := by unfold RightR at h; unfold R64 I64; omega
def RgC (cs : List Value) (x : Rg) : Prop := cs = rc x ∧ R64 x
theorem Sl.rg_at {w : World} {A : Option Addr} {n c k : Nat} {xs : List Rg} (h : Sl w 3 RgC A n c xs) (hk : k < xs.length) :
    ∃ b off, A = some ⟨b, off, none⟩ ∧ b < w.heap.size ∧ w.cell? ⟨b, off + k * 3, none⟩ = some (.int .i64 xs[k].w) ∧ w.cell? ⟨b, off + k * 3 + 1, none⟩ = some (.int .i64 xs[k].f) ∧ w.cell? ⟨b, off + k * 3 + 2, none⟩ = some (.int .i64 xs[k].t) ∧ R64 xs[k] := by
  obtain ⟨b, off, cs, e, hlt, hl, ⟨rfl, hr⟩, hc⟩ := h.4 k hk
  exact ⟨b, off, e, hlt, hc 0 _ rfl, hc 1 _ rfl, hc 2 _ rfl, hr⟩
theorem Sl.r64 {w : World} {A : Option Addr} {n c : Nat} {xs : List Rg} (h : Sl w 3 RgC A n c xs) : ∀ x ∈ xs, R64 x := by
  intro x hx
  obtain ⟨k, hk, rfl⟩ := List.mem_iff_getElem.1 hx
  obtain ⟨_, _, _, _, _, _, _, h⟩ := h.rg_at hk
  exact h
/-- a row of one's own reads as its list -/
theorem OwnC.sl {w : World} {B : Nat} {v : Value} {xs : List Rg} (h : OwnC w B 3 v xs.length (rcs xs)) (hr : ∀ x ∈ xs, R64 x) : ∃ A c, v = .slice A xs.length c ∧ Sl w 3 RgC A xs.length c xs := by
  rcases h.2 with ⟨rfl, e⟩ | ⟨g, cap, rfl, hb, hlt, hnc, hcm, hs, hf, hx⟩
  · have : xs = [] := List.eq_nil_of_length_eq_zero e
    subst this
    exact ⟨none, 0, rfl, Sl.nil_⟩
  · refine ⟨_, cap, rfl, rfl, hnc, by unfold maxLen at hcm; exact hcm, fun i hi => ⟨g, 0, rc xs[i], rfl, hlt, rfl, ⟨rfl, hr _ (List.getElem_mem hi)⟩, fun j u hu => ?_⟩⟩
    have hj : j < 3 := (List.getElem?_eq_some_iff.1 hu).1
    rw [Nat.zero_add]
    exact hx _ _ (by rw [rcs_at _ _ _ hi hj]; exact hu)
theorem own_sl {w : World} {B : Nat} {e : TypeId} {v : Value} {xs : List Rg} (h : w.ownsRow B e 3 v xs.length (rcs xs)) (hr : ∀ x ∈ xs, R64 x) : ∃ A c, v = .slice A xs.length c ∧ Sl w 3 RgC A xs.length c xs := (OwnC.of_row h).sl hr
theorem src_sl {w : World} {A : Option Addr} {n c : Nat} {xs : List Rg} {tx e' : TypeId} (hk : Try.prog.underlying tx = some (.slice e')) (h : Sl w 3 RgC A n c xs) : Src Try.prog 3 tx (.slice A n c) n (rcs xs) w := by
  have hl := h.len
  cases xs with
  | nil =>
    obtain rfl : n = 0 := by simpa using hl.symm
    cases A with
    | none => exact Src.ofNil w hk c
    | some a => exact Src.ofSlice w hk a 0 c [] rfl (fun j v hv => by cases hv) (fun x hx => by cases hx)
  | cons x r =>
    obtain ⟨b, off, rfl, _⟩ := h.rg_at (k := 0) (by simp)
    refine Src.ofSlice w hk ⟨b, off, none⟩ n c _ (by rw [rcs_len, hl]) (fun j u hu => ?_) (rcs_one _)
    have hj : j < (x :: r).length * 3 := by rw [← rcs_len]; exact (List.getElem?_eq_some_iff.1 hu).1
    have hd : j / 3 < (x :: r).length := by omega
    obtain ⟨b', off', cs, e, _, hlc, ⟨rfl, _⟩, hc⟩ := h.4 (j / 3) hd
    cases e
    have e1 : (Addr.mk b off none).add j = ⟨b, off + j, none⟩ := by unfold Addr.add; split <;> simp_all
    have e2 := rcs_at (x :: r) (j / 3) (j % 3) hd (by omega)
    rw [show j / 3 * 3 + j % 3 = j by omega, hu] at e2
    have := hc (j % 3) u e2.symm
    rw [e1]
    rwa [show off + j / 3 * 3 + j % 3 = off + j by omega] at this

theorem blk3 {w : World} {g : Nat} {t : TypeId} {a b c : Value} (h : Blk w g t #[a, b, c]) : w.cell? ⟨g, 0, none⟩ = some a ∧ w.cell? ⟨g, 1, none⟩ = some b ∧ w.cell? ⟨g, 2, none⟩ = some c := by
  refine ⟨?_, ?_, ?_⟩ <;> rw [h.cell] <;> rfl

/-! ### right, Right -/
def rightB (x : Rg) : Bool := decide (RightR x)
theorem rightB_is (x : Rg) : rightB x = ((((decide (x.w ≥ 0) && decide (x.w < 15)) && decide (x.f ≥ 1)) && decide (x.f ≤ x.t)) && decide (x.t ≤ 1099511627776)) := by
  unfold rightB
  rw [Bool.eq_iff_iff, decide_eq_true_iff]
  unfold RightR
  simp only [decide_eq_true_eq, Bool.and_eq_true]
  exact ⟨fun ⟨a, b, c, d, e⟩ => ⟨⟨⟨⟨a, b⟩, c⟩, d⟩, e⟩, fun ⟨⟨⟨⟨a, b⟩, c⟩, d⟩, e⟩ => ⟨a, b, c, d, e⟩⟩
set_option maxRecDepth 100000 in
set_option maxHeartbeats 1600000 in
theorem right_any (x : Rg) (w : World) : Calls Try.prog 23 #[rv x] w fun e w' => e = .returned (.bool (rightB x)) ∧ Below w.heap.size w w' := by
  rw [rightB_is]
  obtain ⟨w1, hw1⟩ : ∃ w1, w1 = w.alloc (.cells #[.int .i64 x.w, .int .i64 x.f, .int .i64 x.t] 33) := ⟨_, rfl⟩
  have hB := Blk.new w 33 #[.int .i64 x.w, .int .i64 x.f, .int .i64 x.t]
  have hb : Below w.heap.size w (w.alloc (.cells #[.int .i64 x.w, .int .i64 x.f, .int .i64 x.t] 33)) := (Below.refl _ w).alloc (Nat.le_refl _) _
  rw [← hw1] at hB hb
  obtain ⟨e0, e1, e2⟩ := blk3 hB
  have HW := Lib.hid hw1
  have HB := Lib.hid hb
  clear hw1 hb hB
  unfold rv
  cases h0 : decide (x.w ≥ 0) <;> cases h1 : decide (x.w < 15) <;> cases h2 : decide (x.f ≥ 1) <;> cases h3 : decide (x.f ≤ x.t)
  all_goals
    go_enter Try.func23, Try.ntmps23
    go_wp2_with fail
    rw [← HW.out]
    go_wp2_with fail
    go_ret
    exact ⟨by simp, HB.out⟩
set_option maxRecDepth 100000 in
set_option maxHeartbeats 1600000 in
theorem Right_any (x : Rg) (w : World) : Calls Try.prog 22 #[rv x] w fun e w' => e = .returned (.bool (rightB x)) ∧ Below w.heap.size w w' := by
  rw [rightB_is]
  obtain ⟨w1, hw1⟩ : ∃ w1, w1 = w.alloc (.cells #[.int .i64 x.w, .int .i64 x.f, .int .i64 x.t] 33) := ⟨_, rfl⟩
  have hB := Blk.new w 33 #[.int .i64 x.w, .int .i64 x.f, .int .i64 x.t]
  have hb : Below w.heap.size w (w.alloc (.cells #[.int .i64 x.w, .int .i64 x.f, .int .i64 x.t] 33)) := (Below.refl _ w).alloc (Nat.le_refl _) _
  rw [← hw1] at hB hb
  obtain ⟨e0, e1, e2⟩ := blk3 hB
  have HW := Lib.hid hw1
  have HB := Lib.hid hb
  clear hw1 hb hB
  unfold rv
  cases h0 : decide (x.w ≥ 0) <;> cases h1 : decide (x.w < 15) <;> cases h2 : decide (x.f ≥ 1) <;> cases h3 : decide (x.f ≤ x.t)
  all_goals
    go_enter Try.func22, Try.ntmps22
    go_wp2_with fail
    rw [← HW.out]
    go_wp2_with fail
    go_ret
    exact ⟨by simp, HB.out⟩
end Go.Proofs.Ytkkmleglaljacaa
