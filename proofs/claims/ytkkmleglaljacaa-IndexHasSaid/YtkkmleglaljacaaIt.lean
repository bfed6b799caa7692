/- slices.Values and slices.Collect at ranges. -/
import Derived.RangeFuncNested
import Derived.RangeFuncBound
import Derived.RangeFuncCalls
import Derived.RangeFuncLeaves
import Derived.RangeFuncBox
import Derived.Shelf.Abstract
import Derived.Shelf.RegionOpen
import Derived.WalkKit
import Derived.OwnWalkIn
import Derived.TacticsInMore
import Derived.LoopNIn
import Derived.LoopIn
import Derived.Sort.QuietIn
import Derived.Maps.AppendAt
import Derived.Test.YtkkmleglaljacaaA
namespace Go.Proofs.Ytkkmleglaljacaa
open Go.RowKit Go.Shelf
attribute [local go_sem] Oper.semAt_some

set_option maxRecDepth 100000 in
set_option maxHeartbeats 2000000 in
theorem values1_in (F : Fence) (n : Nat) (h41 : F.fn 41) (hro : F.round = none) (hn : 1 ≤ n) (l Bs n₀ len cap : Nat) (A : Option Addr) (xs : List Rg) (w : World) (hw : w.heap.size ≤ n₀) (hx : Sl w 3 RgC A len cap xs) (hlen : len ≤ 1000000)
    (J Jx : List Rg → World → Prop) (hJ : ∀ s (W : World) o, J s W → J s (W.alloc o))
    (hY : ∀ pre x W, J pre W → pre.length < len → YieldAt F (n - 1) Try.prog l #[rv x] W fun e W' =>
      (e = .returned (.bool true) ∧ J (pre ++ [x]) W' ∧ Below n₀ W W') ∨ (e = .returned (.bool false) ∧ Jx (pre ++ [x]) W'))
    (W : World) (hwW : Below n₀ w W) (hn0 : n₀ ≤ W.heap.size) (hBs : W.cell? ⟨Bs, 0, none⟩ = some (.slice A len cap)) (h0 : J [] W) :
    CallsIn F n Try.prog 41 #[.func (.yield l) #[] #[], .pointer (some ⟨Bs, 0, none⟩)] W fun e W' => (∃ v, e = .returned v) ∧
      ((∃ ys, ys = xs ∧ J ys W') ∨ (∃ pre : List Rg, True ∧ Jx pre W')) := by
  have hl := hx.len
  refine callsIn_of_wp Try.func41 rfl h41 ?_ hro
  simp only [Try.ntmps41, List.size_toArray, List.length_cons, List.length_nil, Nat.reduceAdd, Nat.reduceSub, Array.replicate_succ, Array.replicate_zero, List.push_toArray, List.append_toArray, List.nil_append, List.cons_append]
  gi_wp2
  gi_loopw [7] (fun i wr => ∃ k : Nat, k ≤ len ∧ i = .int .i64 k ∧ J (xs.take k) wr ∧ Below n₀ W wr)
    (fun i _ => len - (intOf i).toNat)
  case atStart => exact ⟨0, Nat.zero_le _, rfl, h0, Below.refl _ _⟩
  case round =>
    obtain ⟨k, hk, rfl, hJs, hK⟩ := hrel
    by_cases hlt : k < len
    · have hkl : k < xs.length := by omega
      obtain ⟨b, off, rfl, hbl, c0, c1, c2, _⟩ := Sl.rg_at hx hkl
      have d0 := ((hwW.trans hK).cell (p := ⟨b, off + k * 3, none⟩) (by show b < n₀; omega)).trans c0
      have d1 := ((hwW.trans hK).cell (p := ⟨b, off + k * 3 + 1, none⟩) (by show b < n₀; omega)).trans c1
      have d2 := ((hwW.trans hK).cell (p := ⟨b, off + k * 3 + 2, none⟩) (by show b < n₀; omega)).trans c2
      have htk := List.take_succ_eq_append_getElem hkl
      have hpl : (xs.take k).length < len := by rw [List.length_take]; omega
      generalize xs[k] = x at *
      have hy1 := hY _ x (wr.alloc (.cells #[.int .i64 x.w, .int .i64 x.f, .int .i64 x.t] 33)) (hJ _ _ _ hJs) hpl
      have hB1 : Below n₀ W (wr.alloc (.cells #[.int .i64 x.w, .int .i64 x.f, .int .i64 x.t] 33)) := hK.alloc (Nat.le_trans hn0 hK.size) _
      obtain ⟨fn, tmps, assign, body, hy, hR⟩ := hy1
      unfold rv at hy
      have HB := Lib.hid hB1
      clear hJs hK hB1 c0 c1 c2
      gi_wp2
      refine hR.mono ?_
      rintro e W3 (⟨rfl, hJ3, hk3⟩ | ⟨rfl, hJx3⟩)
      · have HK3 := Lib.hid (HB.out.trans hk3)
        have HJ3 := Lib.hid hJ3
        clear hJ3 hk3
        gi_wp2
        go_roundw
        case rel => exact ⟨k + 1, by omega, by go_num, by rw [htk]; exact HJ3.out, HK3.out⟩
        case measure => simp [intOf]; omega
      · gi_wp2
        refine bodyPost_ret (results_none rfl _ _ _) rfl ?_
        exact ⟨⟨_, rfl⟩, .inr ⟨_, trivial, hJx3⟩⟩
    · obtain rfl : k = len := by omega
      rw [List.take_of_length_le (by omega)] at hJs
      gi_wp2
      go_end0
      exact ⟨⟨_, rfl⟩, .inl ⟨_, rfl, hJs⟩⟩

theorem values_stops (F : Fence) (n : Nat) (h41 : F.fn 41) (hro : F.round = none) (hn : 1 ≤ n) (Bs n₀ len cap : Nat) (A : Option Addr) (xs : List Rg) (w0 w : World) (hw : w0.heap.size ≤ n₀) (hx : Sl w0 3 RgC A len cap xs) (hlen : len ≤ 1000000)
    (hb : Below n₀ w0 w) (hn0 : n₀ ≤ w.heap.size) (h1 : Bs < w.heap.size) (hBs : w.cell? ⟨Bs, 0, none⟩ = some (.slice A len cap)) :
    SeqStopsK F n Try.prog 41 #[.pointer (some ⟨Bs, 0, none⟩)] (fun x : Rg => #[rv x]) (Below n₀) (fun ys => ys = xs) (fun _ => True) len w := fun l J Jx W hW hJ _ hY h0 =>
  values1_in F n h41 hro hn l Bs n₀ len cap A xs w0 hw hx hlen J Jx (fun s W o hs => hJ s W _ none hs (gb_alloc (gb_refl _ _) o) (fun r e => by cases e)) hY W (hb.trans (hW.mono hn0)) (Nat.le_trans hn0 hW.size) ((hW.cell (p := ⟨Bs, 0, none⟩) h1).trans hBs) h0

set_option maxRecDepth 100000 in
set_option maxHeartbeats 1000000 in
theorem values_any (A : Option Addr) (len cap : Nat) (w : World) :
    Calls Try.prog 34 #[.slice A len cap] w fun e w' => e = .returned (.func (.func 41) #[] #[.pointer (some ⟨w.heap.size, 0, none⟩)]) ∧ w' = w.alloc (.cells #[.slice A len cap] 22) := by
  go_enter Try.func34, Try.ntmps34
  go_wp2_with fail
  go_ret
  exact ⟨rfl, rfl⟩

theorem info33 : (Try.prog.info? 33).map (fun i => (i.zero, i.size, i.bytes)) = some (some (.agg #[.int .i64 0, .int .i64 0, .int .i64 0]), 3, 24) := by kernel_rfl
theorem cells3_new (W : World) (t : TypeId) (a b c : Value) : ∀ (j : Nat) (u : Value), [a, b, c][j]? = some u → (W.alloc (.cells #[a, b, c] t)).cell? ((Addr.mk W.heap.size 0 none).add j) = some u := by
  intro j u hu
  have e : (Addr.mk W.heap.size 0 none).add j = ⟨W.heap.size, j, none⟩ := by unfold Addr.add; split <;> simp_all
  rw [e, (Blk.new W t #[a, b, c]).cell]
  simpa using hu
theorem Blk.toBox {W : World} {B : Nat} {t : TypeId} {v : Value} (h : Blk W B t #[v]) : Boxed W B t v := h
theorem blk_own {β : Type} (B : Nat) (t : TypeId) (f : β → Array Value) : Own (fun s W => Blk W B t (f s)) := fun s X Y row hs hg hrow => by
  refine hs.grown hg (fun e => ?_)
  obtain ⟨o, ho, hc⟩ := hrow B e.symm
  unfold Blk at hs
  rw [hs] at ho; cases ho; cases hc

set_option maxRecDepth 100000 in
set_option maxHeartbeats 2000000 in
/-- slices.AppendSeq onto nil, of what slices.Values gave: w0 the world in which the list lay; the box of the slice is block Bs -/
theorem appendseq_in (F : Fence) (n : Nat) (h43 : F.fn 43) (h41 : F.fn 41) (hro : F.round = none) (hn : 3 ≤ n) (Bs len cap : Nat) (A : Option Addr) (xs : List Rg) (w0 w : World) (hx : Sl w0 3 RgC A len cap xs) (hlen : len ≤ 1000000)
    (hb : Below w0.heap.size w0 w) (h1 : Bs < w.heap.size) (hge : w0.heap.size ≤ Bs) (hBs : Boxed w Bs 22 (.slice A len cap)) :
    CallsIn F n Try.prog 43 #[.slice none 0 0, .func (.func 41) #[] #[.pointer (some ⟨Bs, 0, none⟩)]] w fun e w' => ∃ v, e = .returned v ∧ w'.ownsRow w.heap.size 33 3 v xs.length (rcs xs) ∧ Below w.heap.size w w' := by
  have hn1 : 1 ≤ n := by omega
  have hl := hx.len
  obtain ⟨i0, hi, hz0, hz1, hz2⟩ := info_parts info33
  refine callsIn_of_wp_marks Try.func43 rfl h43 ?_ hro
  simp only [Try.ntmps43, List.size_toArray, List.length_cons, List.length_nil, Nat.reduceAdd, Nat.reduceSub, Array.replicate_succ, Array.replicate_zero, List.push_toArray, List.append_toArray, List.nil_append, List.cons_append]
  have bO := Boxed.new w 22 (.slice none 0 0)
  have bS := hBs.alloc (.cells #[.slice none 0 0] 22)
  have hB0 : Below w.heap.size w (w.alloc (.cells #[.slice none 0 0] 22)) := (Below.refl _ w).alloc (Nat.le_refl _) _
  have hb0 : Below w0.heap.size w0 (w.alloc (.cells #[.slice none 0 0] 22)) := hb.alloc hb.size _
  have hsz : (w.alloc (.cells #[.slice none 0 0] 22)).heap.size = w.heap.size + 1 := by simp
  obtain ⟨W0, hW0⟩ : ∃ W0, W0 = w.alloc (.cells #[.slice none 0 0] 22) := ⟨_, rfl⟩
  rw [← hW0] at bO bS hB0 hsz hb0
  have HW := Lib.hid hW0
  clear hW0
  gi_wp2
  rw [← HW.out]
  refine wpIn_rangeFunc_ownH hro hn1 (gf := 41) (lb := #[.pointer (some ⟨Bs, 0, none⟩)]) rfl h41 (enters_of Try.func41 (by kernel_rfl) rfl)
    (values_stops F (n - 1) h41 hro (by omega) Bs w0.heap.size len cap A xs w0 W0 (Nat.le_refl _) hx hlen hb0 (by have := hb.size; omega) (by omega) bS.cell) belowK_t (belowK_b (by have := hb.size; omega)) (Below.refl _ _) (fun _ => rfl)
    (fun (pre : List Rg) W => (∃ v, Boxed W w.heap.size 22 v ∧ W.ownsRow w.heap.size 33 3 v pre.length (rcs pre) ∧ True) ∧ Below w.heap.size w W ∧ W0.heap.size ≤ W.heap.size)
    (fun _ _ _ => False)
    (OwnFrom.and (Own.from (holdsRow_own w.heap.size w.heap.size 22 33 3 (fun pre : List Rg => pre.length) (fun pre => rcs pre) (fun _ _ => True)) _) (OwnFrom.and (ownFrom_below (Nat.le_refl _) (by omega)) (fun _ _ _ _ h hg _ => Nat.le_trans h hg.size)))
    (fun _ _ _ _ _ hs _ _ => hs)
    ⟨⟨_, bO, World.ownsRow_nil _ _ _ _, trivial⟩, hB0, Nat.le_refl _⟩
    (fun x a' W => ∃ Bx, w.heap.size < Bx ∧ Blk W Bx 33 #[.int .i64 x.w, .int .i64 x.f, .int .i64 x.t] ∧ a' = { tmps := #[.slice none 0 0, .func (.func 41) #[] #[.pointer (some ⟨Bs, 0, none⟩)], .pointer (some ⟨w.heap.size, 0, none⟩), undef, .slice none 0 0, .pointer (some ⟨Bx, 0, none⟩), .func (.func 41) #[] #[.pointer (some ⟨Bs, 0, none⟩)], rv x, undef, undef, undef, undef, undef], defers := [] })
    (fun x a' _ X Y row hs hg hr => by obtain ⟨Bx, h1, h2, h3⟩ := hs; exact ⟨Bx, h1, blk_own Bx 33 (fun (_ : Unit) => #[.int .i64 x.w, .int .i64 x.f, .int .i64 x.t]) () X Y row h2 hg (fun r e => (hr r e).2), h3⟩)
    ?assign ?body ?done ?stop
  case assign =>
    rintro l pre x W K ⟨⟨v, hv, hrow, _⟩, hB1, hge⟩ hK
    unfold rv at hK ⊢
    gi_wp2
    exact hK _ _ ((KeepsOthers.alloc _ _).from _) ((Below.refl _ W).alloc (by have := hb.size; omega) _) ⟨⟨v, hv.alloc _, hrow.alloc _, trivial⟩, hB1.alloc hB1.size _, by simp; omega⟩ ⟨W.heap.size, hv.lt, Blk.new _ _ _, rfl⟩
  case body =>
    rintro l pre x a' W hl ⟨r, hr⟩ ⟨⟨v, hv, hrow, _⟩, hB1, hge⟩ ⟨Bx, hBx, bX, rfl⟩ hlt
    have cB := hv.cell
    obtain ⟨c0, c1, c2⟩ := blk3 bX
    have hb2 := hb.size
    unfold rv
    gi_wp2_with (gi_at_builtin; refine wpListIn_append_own _ rfl _ _ 22 rfl w.heap.size 33 i0 (.agg #[.int .i64 0, .int .i64 0, .int .i64 0]) 3 24 Try.underlying22 hi hz0 hz1 hz2 rfl (by decide) _ _ _ rfl (hrow.alloc _) ⟨W.heap.size, 0, none⟩ 1 1 (rc x) rfl rfl (cells3_new W 33 _ _ _) (by simp [rc, Value.oneCell']) (by unfold maxLen; omega) (by omega) (by simp; omega) ?_; intro v' w1 hown' hgrow _; obtain ⟨g', cap', rfl⟩ := ownsRow_succ hown'; obtain ⟨hv1, hv2, hr2, hk2, hb2⟩ := hv.appended (by decide) hrow hB1.size (Nat.le_refl _) hown' hgrow; have hc1 := hv1.cell; have hf1 := hv1.frozen)
    exact ⟨hk2.from _, hb2.mono (by have := hb.size; omega), ⟨_, hv2, by rw [rcs_append, List.length_append]; simpa [rcs] using hr2, trivial⟩, hB1.trans hb2, Nat.le_trans hge hk2.size⟩
  case done =>
    rintro D ys W hD rfl ⟨⟨v, hv, hrow, _⟩, hB, _⟩ hK
    have hc := hv.cell
    gi_wp2
    refine ⟨by simp, .inl ⟨_, _, rfl, run_takeDeferred hK, ?_⟩⟩
    exact ⟨_, results_tmp rfl _ _ _, v, rfl, ownsRow_putObj hrow (.deferred none) hK rfl, hB.trans (belowK_b (w := w) (Nat.le_refl _) W D _ _ (by omega) hK rfl rfl)⟩
  case stop =>
    rintro D c pre W _ _ h _
    exact h.elim
end Go.Proofs.Ytkkmleglaljacaa
