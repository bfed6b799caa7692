/- maps.Values at the map of nodes, slices.AppendSeq, slices.Collect. -/
import Derived.RangeFuncNested
import Derived.RangeFuncBound
import Derived.RangeFuncCalls
import Derived.RangeFuncLeaves
import Derived.RangeFuncBox
import Derived.Shelf.Abstract
import Derived.Shelf.RegionOpen
import Derived.WalkKit
import Derived.OwnWalkIn
import Derived.TacticsInMore
import Derived.LoopNIn
import Derived.LoopIn
import Derived.Sort.QuietIn
import Derived.Maps.AppendAt
import Derived.Sort.MapsRangeIn
import Derived.Test.YtaglomhmnoldlaaMo
namespace Go.Proofs.Ytaglomhmnoldlaa
open Go.RowKit Go.Shelf
attribute [local go_sem] Oper.semAt_some bs_size bs_getElem bs_list bs_append

theorem RngN.of_walks {w w' : World} {b r : Nat} {es rest : List Nd} (h : RngN w b r es rest) (k : KeepsWalks w w') : RngN w' b r es rest := by
  obtain ⟨l, c, seen, c0, h1, h2, h3, h4, h5, h6, h7⟩ := h
  exact ⟨l, c, seen, c0, h1, k.same b _ h2 rfl, h3, h4, h5, k.same r _ h6 rfl, h7⟩
theorem RngN.iter_walk {w : World} {b r : Nat} {es rest : List Nd} (h : RngN w b r es rest) : ∃ o : Obj, w.heap[r]? = some o ∧ o.isWalk = true := by
  obtain ⟨l, c, seen, c0, h1, h2, h3, h4, h5, h6, h7⟩ := h
  exact ⟨_, h6, rfl⟩

section
variable {F : Fence} {n : Nat} (w : World) {ops : Array Oper} {rest : List Oper} {o : Oper} {a : Act} {Q : Exit → Act → World → Prop}
theorem wpListIn_rangeN (hg : o.guard = none) (m : Operand) (hop : o.op = Op.range 51 m) (b : Nat) (es : List Nd) (hm : a.eval m = .map (some b)) (hown : MapN w b es)
    (hK : ∀ w', RngN w' b w.heap.size es es → Below w.heap.size w w' → w'.heap.size = w.heap.size + 1 → wpListIn F n Try.prog ops Q rest (a.put o.dst (.pointer (some ⟨w.heap.size, 0, none⟩))) w') :
    wpListIn F n Try.prog ops Q (o :: rest) a w := by
  refine wpListIn_plain hg fun K' hK' => ?_
  obtain ⟨w', hrun, r1, r2, r3⟩ := hown.range
  unfold Oper.wpIn
  refine ⟨?_, ?_⟩
  · simp [Oper.about, hop]
  · rw [Oper.semAt_plain F _ _ (by rw [hop]; intro c hc'; cases hc')]
    simp [execOp, hop, hm, hrun, Result.andThen]
    exact hK' _ _ (hK w' r1 r2 r3)
theorem wpListIn_nextN (hg : o.guard = none) (it : Operand) (hop : o.op = Op.next it false) (b r : Nat) (es left : List Nd) (hit : a.eval it = .pointer (some ⟨r, 0, none⟩)) (h : RngN w b r es left)
    (hDone : left = [] → wpListIn F n Try.prog ops Q rest (a.put o.dst (.tuple #[.bool false])) w)
    (hMore : ∀ x left' w', left.Perm (x :: left') → RngN w' b r es left' → w.grownBy w' (some r) → w'.heap.size = w.heap.size → (Instr.entry (.pointer (some ⟨r, 0, none⟩))).run Try.prog w' = .ok (.tuple #[sv x.id, nv x]) w' → wpListIn F n Try.prog ops Q rest (a.put o.dst (.tuple #[.bool true, sv x.id, nv x])) w') :
    wpListIn F n Try.prog ops Q (o :: rest) a w := by
  refine wpListIn_plain hg fun K' hK' => ?_
  unfold Oper.wpIn
  refine ⟨by simp [Oper.about, hop], ?_⟩
  rw [Oper.semAt_plain F _ _ (by rw [hop]; intro c hc'; cases hc')]
  rcases h.next (P := Try.prog) o.type with ⟨h0, hrun⟩ | ⟨x, left', w', hp, hrun, hrg, hgr, hsz, hen⟩
  · simp [execOp, hop, hit, hrun, Result.andThen]
    exact hK' _ _ (hDone h0)
  · simp [execOp, hop, hit, hrun, Result.andThen]
    exact hK' _ _ (hMore x left' w' hp hrg hgr hsz hen)
end

set_option maxRecDepth 100000 in
set_option maxHeartbeats 2000000 in
theorem mvals1_in (F : Fence) (n : Nat) (h43 : F.fn 43) (hro : F.round = none) (hn : 1 ≤ n) (l Bm b : Nat) (es : List Nd) (J Jx : List Nd → World → Prop)
    (hY : ∀ pre x W, J pre W → pre.length < es.length → YieldAt F (n - 1) Try.prog l #[nv x] W fun e W' =>
      (e = .returned (.bool true) ∧ J (pre ++ [x]) W' ∧ KeepsWalks W W') ∨ (e = .returned (.bool false) ∧ Jx (pre ++ [x]) W'))
    (W : World) (hJ : AbidesFrom W.heap.size J) (hm : W.cell? ⟨Bm, 0, none⟩ = some (.map (some b))) (hown : MapN W b es) (h0 : J [] W) :
    CallsIn F n Try.prog 43 #[.func (.yield l) #[] #[], .pointer (some ⟨Bm, 0, none⟩)] W fun e W' => (∃ v, e = .returned v) ∧
      ((∃ ys, ys.Perm es ∧ J ys W') ∨ (∃ pre : List Nd, True ∧ Jx pre W')) := by
  refine callsIn_of_wp Try.func43 rfl h43 ?_ hro
  simp only [Try.ntmps43, List.size_toArray, List.length_cons, List.length_nil, Nat.reduceAdd, Nat.reduceSub, Array.replicate_succ, Array.replicate_zero, List.push_toArray, List.append_toArray, List.nil_append, List.cons_append]
  gi_wp2_with (first
    | (gi_at_range; refine wpListIn_rangeN _ rfl _ rfl b es rfl hown ?_; intro w0 hrg0 hg0 hs0)
    | gi_in)
  go_frame
  gi_loopw [4] (fun _ wr => ∃ (left pre : List Nd), RngN wr b W.heap.size es left ∧ (pre ++ left).Perm es ∧ J pre wr)
    (fun _ wr => wr.rangeLeft b W.heap.size)
  case atStart => exact ⟨es, [], hrg0, List.Perm.refl _, hJ [] W w0 none h0 (gb_of_below hg0 none) (fun r e => by cases e)⟩
  case round =>
    obtain ⟨left, pre, hrg, hpm, hJs⟩ := hrel
    gi_wp2_with (first
      | (gi_at_next; refine wpListIn_nextN _ rfl _ rfl b W.heap.size es left rfl hrg ?_ ?_)
      | gi_in)
    · intro hl0
      subst hl0
      gi_wp2
      go_end0
      rw [List.append_nil] at hpm
      exact ⟨⟨_, rfl⟩, .inl ⟨_, hpm, hJs⟩⟩
    · intro x left' w2 hp hrg2 hg2 hs2 hen
      have hJ2 : J pre w2 := hJ _ wr w2 (some W.heap.size) hJs hg2 (fun r e => by cases e; exact ⟨Nat.le_refl _, hrg.iter_walk⟩)
      have hJ3 : J pre (w2.alloc (.cells (nc x).toArray 38)) := hJ _ w2 _ none hJ2 (gb_alloc (gb_refl _ _) _) (fun r e => by cases e)
      have hpl : pre.length < es.length := by
        have h1 := hpm.length_eq
        have h2 := hp.length_eq
        simp at h1 h2
        omega
      have hrg3 := hrg2.alloc (.cells (nc x).toArray 38)
      have hpm2 : ((pre ++ [x]) ++ left').Perm es := by
        rw [List.append_assoc]
        exact (List.Perm.append_left pre hp.symm).trans hpm
      obtain ⟨fn, tmps, assign, body, hy, hR⟩ := hY pre x (w2.alloc (.cells (nc x).toArray 38)) hJ3 hpl
      have hleft : left'.length < left.length := by rw [hp.length_eq]; simp
      have HL := Lib.hid hleft
      have HRg := Lib.hid hrg
      unfold nv at hy hen
      unfold sv at hen
      unfold nc at hy
      have HR := Lib.hid hR
      have HR3 := Lib.hid hrg3
      clear hs2 hJ2 hJ3 hR hrg hrg2 hrg3 hpl hleft hp hg2 hJs
      gi_wp2
      refine HR.out.mono ?_
      rintro e W3 (⟨rfl, hJ3, hk3⟩ | ⟨rfl, hJx3⟩)
      · have HK3 := Lib.hid (HR3.out.of_walks hk3)
        have HJ3 := Lib.hid hJ3
        have HPm := Lib.hid hpm2
        clear hJ3 hk3 hpm2
        gi_wp2
        go_roundw
        case rel => exact ⟨left', pre ++ [x], HK3.out, HPm.out, HJ3.out⟩
        case measure => rw [HK3.out.left, HRg.out.left]; exact HL.out
      · gi_wp2
        refine bodyPost_ret (results_none rfl _ _ _) rfl ?_
        exact ⟨⟨_, rfl⟩, .inr ⟨_, trivial, hJx3⟩⟩

theorem mvals_stops (F : Fence) (n : Nat) (h43 : F.fn 43) (hro : F.round = none) (hn : 1 ≤ n) (Bm b : Nat) (es : List Nd) (w : World) (h1 : Bm < w.heap.size) (hBm : w.cell? ⟨Bm, 0, none⟩ = some (.map (some b))) (hown : MapN w b es) :
    SeqStopsK F n Try.prog 43 #[.pointer (some ⟨Bm, 0, none⟩)] (fun x : Nd => #[nv x]) KeepsWalks (fun ys => ys.Perm es) (fun _ => True) es.length w := fun l J Jx W hW hJ _ hY h0 =>
  mvals1_in F n h43 hro hn l Bm b es J Jx hY W hJ ((hW.cell (p := ⟨Bm, 0, none⟩) h1).trans hBm) (hown.below hW) h0

set_option maxRecDepth 100000 in
set_option maxHeartbeats 1000000 in
theorem mvals_any (b : Nat) (w : World) :
    Calls Try.prog 31 #[.map (some b)] w fun e w' => e = .returned (.func (.func 43) #[] #[.pointer (some ⟨w.heap.size, 0, none⟩)]) ∧ w' = w.alloc (.cells #[.map (some b)] 51) := by
  go_enter Try.func31, Try.ntmps31
  go_wp2_with fail
  go_ret
  exact ⟨rfl, rfl⟩

theorem cells7_new (W : World) (t : TypeId) (x : Nd) : ∀ (j : Nat) (u : Value), (nc x)[j]? = some u → (W.alloc (.cells (nc x).toArray t)).cell? ((Addr.mk W.heap.size 0 none).add j) = some u := by
  intro j u hu
  have e : (Addr.mk W.heap.size 0 none).add j = ⟨W.heap.size, j, none⟩ := by unfold Addr.add; split <;> simp_all
  rw [e, (Blk.new W t (nc x).toArray).cell, List.getElem?_toArray]
  exact hu
theorem Blk.toBox {W : World} {B : Nat} {t : TypeId} {v : Value} (h : Blk W B t #[v]) : Boxed W B t v := h
theorem blk_own {β : Type} (B : Nat) (t : TypeId) (f : β → Array Value) : Go.Own (fun s W => Blk W B t (f s)) := fun s X Y row hs hg hrow => by
  refine hs.grown hg (fun e => ?_)
  obtain ⟨o, ho, hc⟩ := hrow B e.symm
  unfold Blk at hs
  rw [hs] at ho; cases ho; cases hc

theorem ownsRow_nw {W : World} {base : Nat} {e : TypeId} {size : Nat} {v : Value} {k : Nat} {xs : List Value} (h : W.ownsRow base e size v k xs) : ∀ (j : Nat) (o : Obj), v.ownBlock = some j → W.heap[j]? = some o → o.isWalk = false := by
  intro j o hj ho
  rcases h.2 with ⟨rfl, _⟩ | ⟨g, cap, cur, rfl, _, hg, _⟩
  · cases hj
  · cases hj
    rw [hg] at ho
    cases ho
    rfl

set_option maxRecDepth 100000 in
set_option maxHeartbeats 2000000 in
/-- slices.AppendSeq onto nil, of what maps.Values gave -/
theorem appendseq_in (F : Fence) (n : Nat) (h54 : F.fn 54) (h43 : F.fn 43) (hro : F.round = none) (hn : 3 ≤ n) (Bs b : Nat) (es : List Nd) (w : World) (hes : es.length ≤ 1000000) (h1 : Bs < w.heap.size) (hBs : Boxed w Bs 51 (.map (some b))) (hmap : MapN w b es) :
    CallsIn F n Try.prog 54 #[.slice none 0 0, .func (.func 43) #[] #[.pointer (some ⟨Bs, 0, none⟩)]] w fun e w' => ∃ v ys, e = .returned v ∧ ys.Perm es ∧ w'.ownsRow w.heap.size 38 7 v ys.length (ncs ys) ∧ Below w.heap.size w w' := by
  have hn1 : 1 ≤ n := by omega
  obtain ⟨i0, hi, hz0, hz1, hz2⟩ := info_parts info37
  refine callsIn_of_wp_marks Try.func54 rfl h54 ?_ hro
  simp only [Try.ntmps54, List.size_toArray, List.length_cons, List.length_nil, Nat.reduceAdd, Nat.reduceSub, Array.replicate_succ, Array.replicate_zero, List.push_toArray, List.append_toArray, List.nil_append, List.cons_append]
  have bO := Boxed.new w 32 (.slice none 0 0)
  have bS := hBs.alloc (.cells #[.slice none 0 0] 32)
  have hB0 : Below w.heap.size w (w.alloc (.cells #[.slice none 0 0] 32)) := (Below.refl _ w).alloc (Nat.le_refl _) _
  have hsz : (w.alloc (.cells #[.slice none 0 0] 32)).heap.size = w.heap.size + 1 := by simp
  obtain ⟨W0, hW0⟩ : ∃ W0, W0 = w.alloc (.cells #[.slice none 0 0] 32) := ⟨_, rfl⟩
  rw [← hW0] at bO bS hB0 hsz
  have hm0 := hmap.below hB0
  have HW := Lib.hid hW0
  clear hW0
  gi_wp2
  rw [← HW.out]
  refine wpIn_rangeFunc_ownH hro hn1 (gf := 43) (lb := #[.pointer (some ⟨Bs, 0, none⟩)]) rfl h43 (enters_of Try.func43 (by kernel_rfl) rfl)
    (mvals_stops F (n - 1) h43 hro (by omega) Bs b es W0 (by omega) bS.cell hm0) KeepsWalks.trans (fun W l o o' hl h hc hw => KeepsWalks.putObj _ h hw) (Below.refl _ _) (fun _ => rfl)
    (fun (pre : List Nd) W => (∃ v, Boxed W w.heap.size 32 v ∧ W.ownsRow w.heap.size 38 7 v pre.length (ncs pre) ∧ True) ∧ Below w.heap.size w W ∧ W0.heap.size ≤ W.heap.size)
    (fun _ _ _ => False)
    (OwnFrom.and (Own.from (holdsRow_own w.heap.size w.heap.size 32 38 7 (fun pre : List Nd => pre.length) (fun pre => ncs pre) (fun _ _ => True)) _) (OwnFrom.and (ownFrom_below (Nat.le_refl _) (by omega)) (fun _ _ _ _ h hg _ => Nat.le_trans h hg.size)))
    (fun _ _ _ _ _ hs _ _ => hs)
    ⟨⟨_, bO, World.ownsRow_nil _ _ _ _, trivial⟩, hB0, Nat.le_refl _⟩
    (fun x a' W => ∃ Bx, w.heap.size < Bx ∧ Blk W Bx 38 (nc x).toArray ∧ a' = { tmps := #[.slice none 0 0, .func (.func 43) #[] #[.pointer (some ⟨Bs, 0, none⟩)], .pointer (some ⟨w.heap.size, 0, none⟩), undef, .slice none 0 0, .pointer (some ⟨Bx, 0, none⟩), .func (.func 43) #[] #[.pointer (some ⟨Bs, 0, none⟩)], nv x, undef, undef, undef, undef, undef], defers := [] })
    (fun x a' _ X Y row hs hg hr => by obtain ⟨Bx, h1, h2, h3⟩ := hs; exact ⟨Bx, h1, blk_own Bx 38 (fun (_ : Unit) => (nc x).toArray) () X Y row h2 hg (fun r e => (hr r e).2), h3⟩)
    ?assign ?body ?done ?stop
  case assign =>
    rintro l pre x W K ⟨⟨v, hv, hrow, _⟩, hB1, hge⟩ hK
    unfold nv at hK ⊢
    unfold nc at hK
    gi_wp2
    exact hK _ _ ((KeepsOthers.alloc _ _).from _) (KeepsWalks.alloc _ _) ⟨⟨v, hv.alloc _, hrow.alloc _, trivial⟩, hB1.alloc hB1.size _, by simp; omega⟩ ⟨W.heap.size, hv.lt, Blk.new _ _ _, rfl⟩
  case body =>
    rintro l pre x a' W hl ⟨r, hr⟩ ⟨⟨v, hv, hrow, _⟩, hB1, hge⟩ ⟨Bx, hBx, bX, rfl⟩ hlt
    have cB := hv.cell
    obtain ⟨c0, c1, c2, c3, c4, c5, c6⟩ := blk7 bX
    have hb2 := hB1.size
    have hcn := cells7_new W 38 x
    have hn1 := nc_one x
    unfold nv
    unfold nc at hcn hn1
    gi_wp2_with (gi_at_builtin; refine wpListIn_append_own _ rfl _ _ 32 rfl w.heap.size 38 i0 (.agg #[.int .i64 0, .int .i64 0, .bool false, .int .i64 0, .int .i64 0, .string ⟨#[]⟩, .string ⟨#[]⟩]) 7 72 Try.underlying32 hi hz0 hz1 hz2 rfl (by decide) _ _ _ rfl (hrow.alloc _) ⟨W.heap.size, 0, none⟩ 1 1 (nc x) rfl rfl hcn hn1 (by unfold maxLen; omega) (by omega) (by simp; omega) ?_; intro v' w1 hown' hgrow _; obtain ⟨g', cap', rfl⟩ := ownsRow_succ hown'; have hkw := (KeepsWalks.alloc W _).trans (KeepsWalks.of_grownBy hgrow (ownsRow_nw (hrow.alloc _))); obtain ⟨hv1, hv2, hr2, hk2, hb2⟩ := hv.appended (by decide) hrow hB1.size (Nat.le_refl _) hown' hgrow; have hc1 := hv1.cell; have hf1 := hv1.frozen)
    exact ⟨hk2.from _, hkw.trans (KeepsWalks.setCell _ _ _), ⟨_, hv2, by rw [ncs_append, List.length_append]; simpa [ncs] using hr2, trivial⟩, hB1.trans hb2, Nat.le_trans hge hk2.size⟩
  case done =>
    rintro D ys W hD hys ⟨⟨v, hv, hrow, _⟩, hB, _⟩ hK
    have hc := hv.cell
    gi_wp2
    refine ⟨by simp, .inl ⟨_, _, rfl, run_takeDeferred hK, ?_⟩⟩
    exact ⟨_, results_tmp rfl _ _ _, v, ys, rfl, hys, ownsRow_putObj hrow (.deferred none) hK rfl, hB.trans (belowK_b (w := w) (Nat.le_refl _) W D _ _ (by omega) hK rfl rfl)⟩
  case stop =>
    rintro D c pre W _ _ h _
    exact h.elim
end Go.Proofs.Ytaglomhmnoldlaa
