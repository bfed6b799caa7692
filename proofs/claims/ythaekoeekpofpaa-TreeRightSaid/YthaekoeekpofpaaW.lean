/- awake: the chapter's example. -/
import Derived.Test.YthaekoeekpofpaaV
namespace Go.Proofs.Ythaekoeekpofpaa
open Go.RowKit
attribute [local go_sem] bs_size bs_getElem bs_list bs_append

def ocs (l : List TOp) : List Value := l.flatMap oc
theorem ocs_len (l : List TOp) : (ocs l).length = l.length * 11 := by
  induction l with
  | nil => rfl
  | cons x l ih => simp only [ocs, List.flatMap_cons, List.length_append, List.length_cons] at ih ⊢; rw [ih]; simp [oc]; omega
theorem ocs_at (l : List TOp) (k j : Nat) (hk : k < l.length) (hj : j < 11) : (ocs l)[k * 11 + j]? = (oc l[k])[j]? := by
  induction l generalizing k with
  | nil => simp at hk
  | cons x l ih =>
    cases k with
    | zero =>
      simp only [ocs, List.flatMap_cons]
      rw [List.getElem?_append_left (by simp [oc]; omega)]
      simp
    | succ k =>
      have := ih k (by simpa using hk)
      simp only [ocs, List.flatMap_cons] at this ⊢
      rw [List.getElem?_append_right (by simp [oc]; omega)]
      rw [show (k + 1) * 11 + j - (oc x).length = k * 11 + j from by simp [oc]; omega, this]
      simp
theorem Ops.of_blk {w : World} {g : Nat} {l : List TOp} (h : Blk w g 32 (ocs l).toArray) (hs : ∀ x ∈ l, OpS x) (hm : l.length ≤ 1000) : Ops w (some ⟨g, 0, none⟩) l.length l.length l :=
  ⟨rfl, Nat.le_refl _, by omega, fun i hi => ⟨g, 0, oc l[i], rfl, h.lt, rfl, ⟨rfl, hs _ (List.getElem_mem hi)⟩, fun j u hu => by
    have hj : j < 11 := by
      rcases Nat.lt_or_ge j 11 with h | h
      · exact h
      · rw [List.getElem?_eq_none (by simpa [oc] using h)] at hu; cases hu
    rw [Nat.zero_add, h.cell]
    simpa [ocs_at l i j hi hj] using hu⟩⟩
def exOps : List TOp := [mkN 1 0, mkN 2 1, ⟨(0, 0), 0, 2, (1, 0), false, (2, 0), [109], []⟩]
def exNds : List Nd := [⟨(1, 0), true, (0, 0), [110], []⟩, ⟨(2, 0), true, (1, 0), [110], []⟩]
def exChain : List St := [(2, 0), (1, 0), (0, 1)]
theorem example_do : chainN (doN exNds ⟨(0, 0), 0, 4, (1, 0), false, (0, 0), [], []⟩) (2, 0) = exChain := example_chain
theorem exOps_short : ∀ x ∈ exOps, OpS x := by
  intro x hx
  simp only [exOps, List.mem_cons, List.not_mem_nil, or_false] at hx
  rcases hx with rfl | rfl | rfl <;> exact ⟨by decide, by decide⟩

set_option maxRecDepth 100000 in
set_option maxHeartbeats 3200000 in
theorem awake_any (w : World) : Calls Try.prog 15 #[] w fun e w' => e = .returned (.bool true) ∧ Below w.heap.size w w' := by
  have H1 := Lib.hid (mk_op 1 0)
  have H2 := Lib.hid (mk_op 2 1)
  unfold ov at H1 H2
  go_enter Try.func15, Try.ntmps15
  go_wp2_with fail
  refine (H1.out _).mono ?_
  rintro e w1 ⟨rfl, hb1⟩
  go_wp2_with fail
  refine (H2.out _).mono ?_
  rintro e w2 ⟨rfl, hb2⟩
  have hb3 : Below w.heap.size w w2 := hb1.trans (hb2.mono hb1.size)
  have hb4 := hb3.alloc hb3.size (.cells (ocs exOps).toArray 32)
  have hO := Ops.of_blk (Blk.new w2 32 (ocs exOps).toArray) exOps_short (by decide)
  have hs4 : w.heap.size ≤ (w2.alloc (.cells (ocs exOps).toArray 32)).heap.size := Nat.le_trans hb3.size (by simp)
  have hF := fold_any _ _ _ _ _ hO (by decide)
  have he : foldN exOps = exNds := example_fold
  rw [he] at hF
  have HF := Lib.hid hF
  have HB4 := Lib.hid hb4
  have HS4 := Lib.hid hs4
  clear hb1 hb2 hb3 hb4 hO hs4 hF he
  go_wp2_with fail
  refine HF.out.mono ?_
  rintro e w5 ⟨A, c, rfl, hN, hb5⟩
  have hb6 := HB4.out.trans (hb5.mono HS4.out)
  have hs6 := Nat.le_trans HS4.out hb5.size
  obtain ⟨b, off, rfl, hbl, c0, c1, c2, c3, c4, c5, c6, _⟩ := Nds.at_ hN (by decide : 0 < exNds.length)
  obtain ⟨b2, off2, e2, hbl2, d0, d1, d2, d3, d4, d5, d6, _⟩ := Nds.at_ hN (by decide : 1 < exNds.length)
  cases e2
  simp only [exNds, List.getElem_cons_zero, List.getElem_cons_succ] at c0 c1 c2 c3 c4 c5 c6 d0 d1 d2 d3 d4 d5 d6
  have hD := do_any ⟨(0, 0), 0, 4, (1, 0), false, (0, 0), [], []⟩ _ _ _ _ _ hN ⟨by decide, by decide⟩ (by decide)
  have HD := Lib.hid hD
  have HB6 := Lib.hid hb6
  have HS6 := Lib.hid hs6
  have hl : exNds.length = 2 := rfl
  rw [hl] at HD ⊢
  unfold ov at HD
  clear hN hb5 hb6 hs6 hD HF
  have hb110 : (bs [110] : ByteArray) = ⟨#[110]⟩ := rfl
  rw [hb110] at c5 d5
  clear hb110
  go_wp2_with fail
  refine HD.out.mono ?_
  rintro e w7 ⟨A7, c7, rfl, hN7, hb7⟩
  have hb8 := HB6.out.trans (hb7.mono HS6.out)
  have hs8 := Nat.le_trans HS6.out hb7.size
  have hl7 := hN7.len
  have hC := chain_any (2, 0) _ _ _ _ _ hN7 (by decide)
  rw [example_do] at hC
  have HC := Lib.hid hC
  have HB8 := Lib.hid hb8
  have HS8 := Lib.hid hs8
  unfold sv at HC
  clear hN7 hb7 hb8 hs8 hl7 hC
  go_wp2_with fail
  refine HC.out.mono ?_
  rintro e w9 ⟨v9, rfl, hO9, hb9⟩
  obtain ⟨A9, c9, rfl, hS9⟩ := OwnS.sts hO9
  have HB9 := Lib.hid (HB8.out.trans (hb9.mono HS8.out))
  obtain ⟨b3, off3, rfl, hbl3, e0, e1⟩ := Sts.at_ hS9 (by decide : 2 < exChain.length)
  simp only [exChain, List.getElem_cons_zero, List.getElem_cons_succ] at e0 e1
  have hl9 : exChain.length = 3 := rfl
  rw [hl9]
  clear hO9 hb9 hS9
  go_wp2_with fail
  go_ret
  exact ⟨rfl, HB9.out⟩
end Go.Proofs.Ythaekoeekpofpaa
