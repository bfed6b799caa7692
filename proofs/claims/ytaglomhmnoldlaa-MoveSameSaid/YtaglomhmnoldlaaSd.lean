/- do: an operation is done. -/
import Derived.Test.YtaglomhmnoldlaaSo
namespace Go.Proofs.Ytaglomhmnoldlaa
set_option linter.unusedSimpArgs false
set_option linter.unusedVariables false
open Go.RowKit
attribute [local go_sem] bs_size bs_getElem bs_list bs_append

theorem findN_id {s : St} {xs : List Nd} (h : hasN s xs = true) : (findN s xs).id = s := by
  unfold hasN at h
  unfold findN
  cases hf : xs.find? (isId s) with
  | none => rw [hf] at h; cases h
  | some a =>
    have := List.find?_some hf
    simpa [isId] using this
/-- an operation's record -/
def doR (es : List Nd) (x : TOp) : Rec := ⟨x, findN x.node es, hasN x.node es, (nextP es x (findN x.node es) (hasN x.node es)).2⟩
/-- the nodes behind it -/
def doE (es : List Nd) (x : TOp) : List Nd := if (doR es x).made then putN es (nextP es x (findN x.node es) (hasN x.node es)).1 else es
theorem nextP_id {es : List Nd} {x : TOp} (h : (nextP es x (findN x.node es) (hasN x.node es)).2 = true) : (nextP es x (findN x.node es) (hasN x.node es)).1.id = x.node := by
  unfold nextP at h ⊢
  by_cases h1 : x.kind = 1
  · rw [if_pos h1]
  rw [if_neg h1] at h ⊢
  by_cases h2 : x.kind = 2
  · rw [if_pos h2] at h ⊢
    simp only [Bool.and_eq_true] at h
    exact findN_id h.1.1
  rw [if_neg h2] at h ⊢
  by_cases h3 : x.kind = 3
  · rw [if_pos h3] at h ⊢
    simp only [Bool.and_eq_true] at h
    exact findN_id h.1
  rw [if_neg h3] at h ⊢
  by_cases h4 : x.kind = 4
  · rw [if_pos h4] at h ⊢
    exact findN_id h
  rw [if_neg h4] at h
  cases h

/-- from w to w' only news was written at place o of block g -/
structure Wrote (w w' : World) (g o : Nat) (news : List Value) : Prop where
  at_ : ∀ j u, news[j]? = some u → w'.cell? ⟨g, o + j, none⟩ = some u
  out : ∀ j, (j < o ∨ o + news.length ≤ j) → w'.cell? ⟨g, j, none⟩ = w.cell? ⟨g, j, none⟩
  frozen : ∀ j, w'.frozen? ⟨g, j, none⟩ = w.frozen? ⟨g, j, none⟩
  grown : w.grownBy w' (some g)
theorem Wrote.cells (w : World) (g o : Nat) (news : List Value) (hs : ∀ j, j < news.length → (w.cell? ⟨g, o + j, none⟩).isSome = true) : Wrote w (w.setCells g o news) g o news :=
  ⟨fun j u hu => by
    obtain ⟨hj, rfl⟩ := List.getElem?_eq_some_iff.1 hu
    exact World.cell?_setCells_in g news o w hs j hj,
   fun j hj => World.cell?_setCells_out _ _ _ _ _ (fun _ _ => hj),
   fun j => World.frozen?_setCells _ _ _ _ _,
   ⟨os_setCellsC _ _ _ _, tape_setCellsC _ _ _ _, out_setCellsC _ _ _ _, by rw [size_setCellsC]; exact Nat.le_refl _, fun i hi hne => World.heap_setCells_other w g _ _ hi (fun e => hne (by rw [e]))⟩⟩
theorem Wrote.drew {w w' : World} {g o : Nat} {news : List Value} (h : Wrote w w' g o news) : Wrote w w'.drew g o news := ⟨h.at_, h.out, h.frozen, gb_drew h.grown⟩
/-- a record whose 'was' and 'had' are set -/
theorem RecAt.turn {w w' : World} {g o : Nat} {d : Rec} (h : RecAt w g o d) {y : Nd} {hd : Bool} (hw : Wrote w w' g (o + 11) (nc y ++ [.bool hd])) : RecAt w' g o ⟨d.op, y, hd, d.made⟩ :=
  ⟨Nat.lt_of_lt_of_le h.1 hw.grown.size, fun j u hu => by
    match j, hu with
    | 0, hu => exact (hw.out _ (.inl (by omega))).trans (h.2 0 u hu)
    | 1, hu => exact (hw.out _ (.inl (by omega))).trans (h.2 1 u hu)
    | 2, hu => exact (hw.out _ (.inl (by omega))).trans (h.2 2 u hu)
    | 3, hu => exact (hw.out _ (.inl (by omega))).trans (h.2 3 u hu)
    | 4, hu => exact (hw.out _ (.inl (by omega))).trans (h.2 4 u hu)
    | 5, hu => exact (hw.out _ (.inl (by omega))).trans (h.2 5 u hu)
    | 6, hu => exact (hw.out _ (.inl (by omega))).trans (h.2 6 u hu)
    | 7, hu => exact (hw.out _ (.inl (by omega))).trans (h.2 7 u hu)
    | 8, hu => exact (hw.out _ (.inl (by omega))).trans (h.2 8 u hu)
    | 9, hu => exact (hw.out _ (.inl (by omega))).trans (h.2 9 u hu)
    | 10, hu => exact (hw.out _ (.inl (by omega))).trans (h.2 10 u hu)
    | 11, hu => exact (Nat.add_assoc o 11 0) ▸ hw.at_ 0 u hu
    | 12, hu => exact (Nat.add_assoc o 11 1) ▸ hw.at_ 1 u hu
    | 13, hu => exact (Nat.add_assoc o 11 2) ▸ hw.at_ 2 u hu
    | 14, hu => exact (Nat.add_assoc o 11 3) ▸ hw.at_ 3 u hu
    | 15, hu => exact (Nat.add_assoc o 11 4) ▸ hw.at_ 4 u hu
    | 16, hu => exact (Nat.add_assoc o 11 5) ▸ hw.at_ 5 u hu
    | 17, hu => exact (Nat.add_assoc o 11 6) ▸ hw.at_ 6 u hu
    | 18, hu => exact (Nat.add_assoc o 11 7) ▸ hw.at_ 7 u hu
    | 19, hu => exact (hw.out _ (.inr (by show o + 11 + 8 ≤ _; omega))).trans (h.2 19 u hu)
    | k + 20, hu => cases hu⟩
/-- its 'made' is set -/
theorem RecAt.mark {w w' : World} {g o : Nat} {d : Rec} (h : RecAt w g o d) {b : Bool} (hw : Wrote w w' g (o + 19) [.bool b]) : RecAt w' g o ⟨d.op, d.was, d.had, b⟩ :=
  ⟨Nat.lt_of_lt_of_le h.1 hw.grown.size, fun j u hu => by
    match j, hu with
    | 0, hu => exact (hw.out _ (.inl (by omega))).trans (h.2 0 u hu)
    | 1, hu => exact (hw.out _ (.inl (by omega))).trans (h.2 1 u hu)
    | 2, hu => exact (hw.out _ (.inl (by omega))).trans (h.2 2 u hu)
    | 3, hu => exact (hw.out _ (.inl (by omega))).trans (h.2 3 u hu)
    | 4, hu => exact (hw.out _ (.inl (by omega))).trans (h.2 4 u hu)
    | 5, hu => exact (hw.out _ (.inl (by omega))).trans (h.2 5 u hu)
    | 6, hu => exact (hw.out _ (.inl (by omega))).trans (h.2 6 u hu)
    | 7, hu => exact (hw.out _ (.inl (by omega))).trans (h.2 7 u hu)
    | 8, hu => exact (hw.out _ (.inl (by omega))).trans (h.2 8 u hu)
    | 9, hu => exact (hw.out _ (.inl (by omega))).trans (h.2 9 u hu)
    | 10, hu => exact (hw.out _ (.inl (by omega))).trans (h.2 10 u hu)
    | 11, hu => exact (hw.out _ (.inl (by omega))).trans (h.2 11 u hu)
    | 12, hu => exact (hw.out _ (.inl (by omega))).trans (h.2 12 u hu)
    | 13, hu => exact (hw.out _ (.inl (by omega))).trans (h.2 13 u hu)
    | 14, hu => exact (hw.out _ (.inl (by omega))).trans (h.2 14 u hu)
    | 15, hu => exact (hw.out _ (.inl (by omega))).trans (h.2 15 u hu)
    | 16, hu => exact (hw.out _ (.inl (by omega))).trans (h.2 16 u hu)
    | 17, hu => exact (hw.out _ (.inl (by omega))).trans (h.2 17 u hu)
    | 18, hu => exact (hw.out _ (.inl (by omega))).trans (h.2 18 u hu)
    | 19, hu => exact hw.at_ 0 u hu
    | k + 20, hu => cases hu⟩
/-- from w to w' blocks g and m have turned, no others -/
structure Keep2 (w w' : World) (g m : Nat) : Prop where
  os : w'.os = w.os
  tape : w'.tape = w.tape
  output : w'.output = w.output
  size : w.heap.size ≤ w'.heap.size
  block : ∀ i, i < w.heap.size → i ≠ g → i ≠ m → w'.heap[i]? = w.heap[i]?
theorem Keep2.refl (w : World) (g m : Nat) : Keep2 w w g m := ⟨rfl, rfl, rfl, Nat.le_refl _, fun _ _ _ _ => rfl⟩
theorem Keep2.grown1 {w w1 w2 : World} {g m : Nat} (h : Keep2 w w1 g m) (k : w1.grownBy w2 (some g)) : Keep2 w w2 g m :=
  ⟨k.os.trans h.os, k.tape.trans h.tape, k.output.trans h.output, Nat.le_trans h.size k.size, fun i hi h1 h2 => (k.block i (Nat.lt_of_lt_of_le hi h.size) (fun e => h1 (Option.some.inj e))).trans (h.block i hi h1 h2)⟩
theorem Keep2.grown2 {w w1 w2 : World} {g m : Nat} (h : Keep2 w w1 g m) (k : w1.grownBy w2 (some m)) : Keep2 w w2 g m :=
  ⟨k.os.trans h.os, k.tape.trans h.tape, k.output.trans h.output, Nat.le_trans h.size k.size, fun i hi h1 h2 => (k.block i (Nat.lt_of_lt_of_le hi h.size) (fun e => h2 (Option.some.inj e))).trans (h.block i hi h1 h2)⟩
theorem Keep2.below {w w1 w2 : World} {g m : Nat} (h : Keep2 w w1 g m) (k : Below w1.heap.size w1 w2) : Keep2 w w2 g m := h.grown1 (gb_of_below k _)
theorem Keep2.trans {w w1 w2 : World} {g m : Nat} (h : Keep2 w w1 g m) (k : Keep2 w1 w2 g m) : Keep2 w w2 g m :=
  ⟨k.os.trans h.os, k.tape.trans h.tape, k.output.trans h.output, Nat.le_trans h.size k.size, fun i hi h1 h2 => (k.block i (Nat.lt_of_lt_of_le hi h.size) h1 h2).trans (h.block i hi h1 h2)⟩
theorem Stt.grown {w w' : World} {p m g : Nat} {v : Value} {r : Int} {es : List Nd} (h : Stt w p m v r es) (k : w.grownBy w' (some g)) (hp : p ≠ g) (hm : m ≠ g) : Stt w' p m v r es := ⟨h.blk.grown k (fun e => hp (Option.some.inj e)), h.map.grown k (fun e => hm (Option.some.inj e))⟩

theorem rc_len (d : Rec) : (rc d).length = 20 := rfl
theorem nc8_len (y : Nd) (b : Bool) : (nc y ++ [Value.bool b]).length = 8 := rfl
theorem RecAt.some11 {w : World} {g o : Nat} {d : Rec} (h : RecAt w g o d) {y : Nd} {b : Bool} {j : Nat} (hj : j < (nc y ++ [Value.bool b]).length) : (w.cell? ⟨g, o + 11 + j, none⟩).isSome = true := by
  rw [nc8_len] at hj
  have hl : 11 + j < (rc d).length := by rw [rc_len]; omega
  rw [Nat.add_assoc, h.2 (11 + j) _ (List.getElem?_eq_getElem hl)]
  rfl
def put8at (w : World) (g o : Nat) (x : Nd) (b : Bool) : World := (((((((w.setCell ⟨g, o, none⟩ (.int .i64 x.id.1)).setCell ⟨g, o + 1, none⟩ (.int .i64 x.id.2)).setCell ⟨g, o + 2, none⟩ (.bool x.dir)).setCell ⟨g, o + 3, none⟩ (.int .i64 x.par.1)).setCell ⟨g, o + 4, none⟩ (.int .i64 x.par.2)).setCell ⟨g, o + 5, none⟩ (.string (bs x.nm))).setCell ⟨g, o + 6, none⟩ (.string (bs x.mf))).setCell ⟨g, o + 7, none⟩ (.bool b)
theorem put8at_cells (w : World) (g o : Nat) (x : Nd) (b : Bool) : put8at w g o x b = w.setCells g o (nc x ++ [.bool b]) := rfl
theorem RecAt.wrote8 {w : World} {g o : Nat} {d : Rec} (h : RecAt w g o d) (y : Nd) (b : Bool) : Wrote w (put8at w g (o + 11) y b).drew g (o + 11) (nc y ++ [.bool b]) := by
  obtain ⟨l, hl⟩ : ∃ l, l = nc y ++ [Value.bool b] := ⟨_, rfl⟩
  have hs : ∀ j, j < l.length → (w.cell? ⟨g, o + 11 + j, none⟩).isSome = true := fun j hj => h.some11 (y := y) (b := b) (by rw [← hl]; exact hj)
  rw [put8at_cells, ← hl]
  have h1 := Wrote.cells w g (o + 11) l hs
  exact h1.drew
/-- what stands behind do -/
structure DidR (w w' : World) (g o p m : Nat) (v : Value) (r : Int) (d : Rec) (es : List Nd) : Prop where
  rec_ : RecAt w' g o d
  out : ∀ j, (j < o + 11 ∨ o + 20 ≤ j) → w'.cell? ⟨g, j, none⟩ = w.cell? ⟨g, j, none⟩
  frozen : ∀ j, w'.frozen? ⟨g, j, none⟩ = w.frozen? ⟨g, j, none⟩
  stt : Stt w' p m v r es
  keep : Keep2 w w' g m

theorem Wrote.one (w : World) (g o : Nat) (u : Value) (hs : (w.cell? ⟨g, o, none⟩).isSome = true) : Wrote w (w.setCell ⟨g, o, none⟩ u) g o [u] := by
  have h1 := Wrote.cells w g o [u] (fun j hj => by
    obtain rfl : j = 0 := by simpa using hj
    exact hs)
  exact h1
theorem DidR.start {w w1 w3 : World} {g o p m : Nat} {v : Value} {r : Int} {d0 d1 : Rec} {es : List Nd} {y : Nd} {had : Bool} (h0 : RecAt w g o d0) (hS : Stt w p m v r es) (hp : p ≠ g) (hmg : m ≠ g) (hw : Wrote w w1 g (o + 11) (nc y ++ [.bool had]))
    (h1 : RecAt w1 g o d1) (hb : Below w1.heap.size w1 w3) (mk : Bool) : DidR w (w3.setCell ⟨g, o + 19, none⟩ (.bool mk)) g o p m v r ⟨d1.op, d1.was, d1.had, mk⟩ es := by
  have h3 := h1.below hb
  have hW := Wrote.one w3 g (o + 19) (.bool mk) (by rw [h3.had_.2]; rfl)
  have k1 : Keep2 w w1 g m := (Keep2.refl w g m).grown1 hw.grown
  refine ⟨h3.mark hW, fun j hj => ?_, fun j => ?_, ((hS.grown hw.grown hp hmg).below hb).grown hW.grown hp hmg, (k1.below hb).grown1 hW.grown⟩
  · rw [hW.out j (by rcases hj with h | h; exact .inl (by omega); exact .inr (by show o + 19 + 1 ≤ j; omega)), hb.cell (p := ⟨g, j, none⟩) h1.1]
    exact hw.out j (by rcases hj with h | h; exact .inl h; exact .inr (by rw [nc8_len]; omega))
  · rw [hW.frozen, hb.frozen (p := ⟨g, j, none⟩) h1.1, hw.frozen]
theorem DidR.map {w w4 w5 : World} {g o p m : Nat} {v : Value} {r : Int} {d : Rec} {es es' : List Nd} (h : DidR w w4 g o p m v r d es) (hmg : m ≠ g) (hk : w4.grownBy w5 (some m)) (he : MapN w5 m es') : DidR w w5 g o p m v r d es' := by
  have hb : w5.heap[g]? = w4.heap[g]? := hk.block g h.rec_.1 (fun e => hmg (Option.some.inj e).symm)
  have hc : ∀ j, w5.cell? ⟨g, j, none⟩ = w4.cell? ⟨g, j, none⟩ := fun j => World.cell?_of_block (a := ⟨g, j, none⟩) hb
  have hz : ∀ j, w5.frozen? ⟨g, j, none⟩ = w4.frozen? ⟨g, j, none⟩ := fun j => World.frozen?_of_block (a := ⟨g, j, none⟩) hb
  exact ⟨⟨Nat.lt_of_lt_of_le h.rec_.1 hk.size, fun j u hu => by rw [hc]; exact h.rec_.2 j u hu⟩, fun j hj => by rw [hc]; exact h.out j hj, fun j => by rw [hz]; exact h.frozen j,
    ⟨h.stt.blk.grown hk (fun e => by have := h.stt.map.ne_blk h.stt.blk; exact this (Option.some.inj e).symm), he⟩, h.keep.grown2 hk⟩
theorem DidR.drew {w w4 : World} {g o p m : Nat} {v : Value} {r : Int} {d : Rec} {es : List Nd} (h : DidR w w4 g o p m v r d es) : DidR w w4.drew g o p m v r d es :=
  ⟨h.rec_.below (Below.refl _ _).drew, h.out, h.frozen, h.stt.below (Below.refl _ _).drew, h.keep.below (Below.refl _ _).drew⟩

set_option maxRecDepth 100000 in
set_option maxHeartbeats 3200000 in
theorem do_st (d : Rec) (g o p m : Nat) (v : Value) (r : Int) (es : List Nd) (w : World) (hd : RecAt w g o d) (hf : ∀ j, j < 20 → w.frozen? ⟨g, o + j, none⟩ = false) (hp : p ≠ g) (hmg : m ≠ g) (h : Stt w p m v r es) (hm : es.length ≤ 1000000) :
    Calls Try.prog 29 #[.pointer (some ⟨p, 0, none⟩), .pointer (some ⟨g, o, none⟩)] w fun e w' => e = .returned (.tuple #[]) ∧ DidR w w' g o p m v r (doR es d.op) (doE es d.op) := by
  obtain ⟨x, y0, had0, made0⟩ := d
  obtain ⟨y, hy⟩ : ∃ y, y = findN x.node es := ⟨_, rfl⟩
  obtain ⟨had, hhad⟩ : ∃ b, b = hasN x.node es := ⟨_, rfl⟩
  have c1 := h.c1
  obtain ⟨o0, o1, o2, o3, o4, o5, o6, o7, o8, o9, o10⟩ := hd.op_
  obtain ⟨a0, a1, a2, a3, a4, a5, a6⟩ := hd.was_
  obtain ⟨hh, hmd⟩ := hd.had_
  have f11 := hf 11 (by omega)
  have f12 := hf 12 (by omega)
  have f13 := hf 13 (by omega)
  have f14 := hf 14 (by omega)
  have f15 := hf 15 (by omega)
  have f16 := hf 16 (by omega)
  have f17 := hf 17 (by omega)
  have f18 := hf 18 (by omega)
  have hl : (Instr.lookup 51 (.map (some m)) (sv x.node) true).run Try.prog w.drew = .ok (.tuple #[nv y, .bool had]) w.drew := by
    rw [hy, hhad]
    exact (h.map.below (w' := w.drew) (Below.refl _ w).drew).look2 x.node
  unfold sv nv at hl
  have HS := Lib.hid h
  have HD := Lib.hid hd
  have HF := Lib.hid hf
  have HY := Lib.hid hy
  have HH := Lib.hid hhad
  simp only at o4 o5
  clear h hd hf hy hhad o0 o1 o2 o3 o6 o7 o8 o9 o10
  go_enter Try.func29, Try.ntmps29
  go_upto_region 0 with (fail)
  go_region
  obtain ⟨w1, hw1⟩ : ∃ w1, w1 = ((((((((w.setCell ⟨g, o + 11, none⟩ (.int .i64 y.id.1)).setCell ⟨g, o + 11 + 1, none⟩ (.int .i64 y.id.2)).setCell ⟨g, o + 11 + 2, none⟩ (.bool y.dir)).setCell ⟨g, o + 11 + 3, none⟩ (.int .i64 y.par.1)).setCell ⟨g, o + 11 + 4, none⟩ (.int .i64 y.par.2)).setCell ⟨g, o + 11 + 5, none⟩ (.string (bs y.nm))).setCell ⟨g, o + 11 + 6, none⟩ (.string (bs y.mf))).setCell ⟨g, o + 18, none⟩ (.bool had)).drew := ⟨_, rfl⟩
  rw [← hw1]
  have hW1 : Wrote w w1 g (o + 11) (nc y ++ [.bool had]) := by
    have h1 := HD.out.wrote8 y had
    unfold put8at at h1
    simp only [Nat.add_assoc, Nat.reduceAdd] at h1 hw1 ⊢
    rw [hw1]
    exact h1
  clear hw1 hl c1 o4 o5 a0 a1 a2 a3 a4 a5 a6 hh hmd f11 f12 f13 f14 f15 f16 f17 f18
  have hR1 := HD.out.turn hW1
  have hS1 := HS.out.grown hW1.grown hp hmg
  obtain ⟨n, hn⟩ : ∃ n, n = (nextP es x y had).1 := ⟨_, rfl⟩
  obtain ⟨mk, hmk⟩ : ∃ b, b = (nextP es x y had).2 := ⟨_, rfl⟩
  have hN := next_any _ g o p m v r es w1 hR1 hS1 hm
  simp only at hN
  rw [← hn, ← hmk] at hN
  unfold nv at hN
  have HNx := Lib.hid hN
  have HR1 := Lib.hid hR1
  have HS1 := Lib.hid hS1
  have HW1 := Lib.hid hW1
  have HN := Lib.hid hn
  have HM := Lib.hid hmk
  clear hN hR1 hS1 hW1 hn hmk
  go_wp2_with fail
  refine HNx.out.mono ?_
  rintro e w2 ⟨rfl, hb2⟩
  have hb3 : Below w1.heap.size w1 (w2.alloc (.cells (nc n).toArray 38)) := hb2.alloc hb2.size _
  obtain ⟨hh, hmd⟩ := (HR1.out.below hb3).had_
  have f19 : (w2.alloc (.cells (nc n).toArray 38)).frozen? ⟨g, o + 19, none⟩ = false := by
    rw [hb3.frozen (p := ⟨g, o + 19, none⟩) HR1.out.1, HW1.out.frozen]
    exact HF.out 19 (by omega)
  have HB3 := Lib.hid hb3
  have n7 := (Blk.new w2 38 (nc n).toArray)
  have HN7 := Lib.hid n7
  have hgn : g ≠ w2.heap.size := fun e => by have h1 := HR1.out.1; have h2 := hb2.size; omega
  unfold nc at hmd f19
  clear hb2 hb3 hh n7
  have hR : doR es x = ⟨x, y, had, mk⟩ := by unfold doR; rw [← HY.out, ← HH.out, ← HM.out]
  have hE : doE es x = if mk then putN es n else es := by unfold doE; rw [hR, ← HY.out, ← HH.out, ← HN.out]
  have HR := Lib.hid hR
  have HE := Lib.hid hE
  have hD4 := DidR.start HD.out HS.out hp hmg HW1.out HR1.out HB3.out mk
  unfold nc at hD4
  simp only at hD4
  clear hR hE
  cases mk with
  | false =>
    have HD4 := Lib.hid hD4
    clear hD4
    go_wp2_with fail
    go_end0
    refine ⟨rfl, ?_⟩
    rw [HR.out, HE.out]
    exact HD4.out
  | true =>
    have hid : n.id = x.node := by
      have h1 := HM.out
      rw [HN.out, HY.out, HH.out]
      exact nextP_id (by rw [← HY.out, ← HH.out, ← h1])
    have HID := Lib.hid hid
    clear hid
    go_upto_region 4 with (fail)
    obtain ⟨w4, hw4⟩ : ∃ w4, w4 = (w2.alloc (.cells #[.int .i64 n.id.1, .int .i64 n.id.2, .bool n.dir, .int .i64 n.par.1, .int .i64 n.par.2, .string (bs n.nm), .string (bs n.mf)] 38)).setCell ⟨g, o + 19, none⟩ (.bool true) := ⟨_, rfl⟩
    rw [← hw4] at hD4
    rw [← hw4]
    have hB7 : Blk w4 w2.heap.size 38 (nc n).toArray := by rw [hw4]; exact Blk.far HN7.out (fun e => hgn e.symm) _
    obtain ⟨n0, n1, n2, n3, n4, n5, n6⟩ := blk7 hB7
    obtain ⟨w5, hrun, hm5, hg5, _⟩ := (hD4.drew.stt.map).put n
    have c1 := hD4.stt.c1
    obtain ⟨_, _, _, _, o4, o5, _, _, _, _, _⟩ := hD4.rec_.op_
    have HD5 := Lib.hid (hD4.drew.map hmg hg5 hm5)
    rw [HID.out] at hrun
    unfold sv nv at hrun
    simp only at o4 o5
    clear hw4 hD4 hB7 hm5 hg5 hmd f19
    go_region
    all_goals
      go_end0
      refine ⟨rfl, ?_⟩
      rw [HR.out, HE.out]
      exact HD5.out
end Go.Proofs.Ytaglomhmnoldlaa
