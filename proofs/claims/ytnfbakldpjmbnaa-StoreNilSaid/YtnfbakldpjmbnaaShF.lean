/- The walk of press: a block pressed in. -/
import Derived.Test.YtnfbakldpjmbnaaShE
namespace Go.Proofs.Ytnfbakldpjmbnaa
open Go.RowKit
attribute [local go_sem] bs_size bs_getElem bs_list bs_append

def u64v (x : Nat) : Value := .int .u64 (x : Int)
/-- a state's eight cells -/
def av (v : V8) : Array Value := #[.int .u64 (v.a : Int), .int .u64 (v.b : Int), .int .u64 (v.c : Int), .int .u64 (v.d : Int), .int .u64 (v.e : Int), .int .u64 (v.f : Int), .int .u64 (v.g : Int), .int .u64 (v.h : Int)]

theorem av_list (v : V8) : av v = cellsN 8 v.list := rfl
theorem av_size (v : V8) : (av v).size = 8 := rfl
theorem gb_setRow {a w : World} {g : Nat} (h : a.grownBy w (some g)) {p : Nat} (hp : p = g ∨ a.heap.size ≤ p) (cs : Array Value) : a.grownBy (w.setRow p cs) (some g) :=
  ⟨h.os, h.tape, h.output, by simpa using h.size, fun i hi hne => (setRow_other w p i cs (by
    rintro rfl
    rcases hp with hp | hp
    · exact hne (by rw [hp])
    · omega)).trans (h.block i hi hne)⟩
theorem Blk.setRow {w : World} {g : Nat} {t : TypeId} {old : Array Value} (h : Blk w g t old) (cs : Array Value) : Blk (w.setRow g cs) g t cs := setRow_heap w g old cs t (0, 0) h
theorem Blk.setRow_far {w : World} {g p : Nat} {t : TypeId} {cs : Array Value} (h : Blk w g t cs) (hp : g ≠ p) (xs : Array Value) : Blk (w.setRow p xs) g t cs := (setRow_other w p g xs hp).trans h
theorem Blk.at_ {w : World} {g : Nat} {t : TypeId} {cs : Array Value} (h : Blk w g t cs) (i : Nat) {v : Value} (hv : cs[i]? = some v) : w.cell? ⟨g, i, none⟩ = some v := (Blk.cell h i).trans hv

theorem u64_not (a : Nat) (h : W64 a) : bits .xor .u64 18446744073709551615 (a : Int) = ((neg64 a : Nat) : Int) := u64_xor_nat 18446744073709551615 a (by decide) h
theorem neg64_lt {a : Nat} (h : W64 a) : W64 (neg64 a) := xor_lt64 (show W64 18446744073709551615 by unfold W64; decide) h
theorem xx_code (v : V8) (k w : Nat) (h : v.ok) :
    IntKind.u64.wrap (IntKind.u64.wrap (IntKind.u64.wrap (IntKind.u64.wrap ((v.h : Int) + bits .xor .u64 (bits .xor .u64 (tr v.e 14 : Nat) (tr v.e 18 : Nat)) (tr v.e 41 : Nat)) + bits .xor .u64 (bits .and .u64 (v.e : Int) (v.f : Int)) (bits .and .u64 (bits .xor .u64 18446744073709551615 (v.e : Int)) (v.g : Int))) + (k : Int)) + (w : Int))
      = ((xx v k w : Nat) : Int) := by
  obtain ⟨ha, hb, hc, hd, he, hf, hg, hh⟩ := h
  rw [u64_not _ he, u64_and_nat _ _ he hf, u64_and_nat _ _ (neg64_lt he) hg, u64_xor_nat _ _ (and_lt64 he) (and_lt64 (neg64_lt he)), u64_xor_nat _ _ (tr_lt he) (tr_lt he), u64_xor_nat _ _ (xor_lt64 (tr_lt he) (tr_lt he)) (tr_lt he)]
  rw [add_code, add_code, add_code, add_code]
  rfl
theorem yy_code (v : V8) (h : v.ok) :
    IntKind.u64.wrap (bits .xor .u64 (bits .xor .u64 (tr v.a 28 : Nat) (tr v.a 34 : Nat)) (tr v.a 39 : Nat) + bits .xor .u64 (bits .xor .u64 (bits .and .u64 (v.a : Int) (v.b : Int)) (bits .and .u64 (v.a : Int) (v.c : Int))) (bits .and .u64 (v.b : Int) (v.c : Int)))
      = ((yy v : Nat) : Int) := by
  obtain ⟨ha, hb, hc, hd, he, hf, hg, hh⟩ := h
  rw [u64_and_nat _ _ ha hb, u64_and_nat _ _ ha hc, u64_and_nat _ _ hb hc, u64_xor_nat _ _ (and_lt64 ha) (and_lt64 ha), u64_xor_nat _ _ (xor_lt64 (and_lt64 ha) (and_lt64 ha)) (and_lt64 hb), u64_xor_nat _ _ (tr_lt ha) (tr_lt ha), u64_xor_nat _ _ (xor_lt64 (tr_lt ha) (tr_lt ha)) (tr_lt ha)]
  rw [add_code]
  rfl
theorem rnd_cells (v : V8) (k w : Nat) : #[Value.int .u64 (IntKind.u64.wrap ((xx v k w : Nat) + (yy v : Nat))), .int .u64 (v.a : Int), .int .u64 (v.b : Int), .int .u64 (v.c : Int), .int .u64 (IntKind.u64.wrap ((v.d : Int) + (xx v k w : Nat))), .int .u64 (v.e : Int), .int .u64 (v.f : Int), .int .u64 (v.g : Int)] = av (rnd v k w) := by
  rw [add_code, add_code]; rfl
theorem dr_drewN (w : World) : ∃ n, w.drewN n = w := ⟨0, rfl⟩
theorem gb_drewN' {a w wq : World} {r : Option Nat} (h : a.grownBy w r) {n : Nat} (hq : w.drewN n = wq) : a.grownBy wq r := by subst hq; exact gb_drewN h n
theorem Blk.dr {w wq : World} {n g : Nat} {t : TypeId} {cs : Array Value} (h : Blk w g t cs) (hq : w.drewN n = wq) : Blk wq g t cs := by subst hq; exact h.drewN n

def mixC (v V : V8) (k : Nat) : Array Value := Array.ofFn (n := 8) fun i => Value.int .u64 (((if (i : Nat) < k then add64 (v.list.getD i 0) (V.list.getD i 0) else v.list.getD i 0 : Nat)) : Int)
theorem mixC_at (v V : V8) (k i : Nat) (h : i < 8) : (mixC v V k)[i]? = some (.int .u64 (((if i < k then add64 (v.list.getD i 0) (V.list.getD i 0) else v.list.getD i 0 : Nat)) : Int)) := by simp [mixC, h]
theorem mixC_size (v V : V8) (k : Nat) : (mixC v V k).size = 8 := by simp [mixC]
theorem mixC_zero (v V : V8) : mixC v V 0 = av v := by kernel_rfl
theorem mixC_eight (v V : V8) : mixC v V 8 = av (addV v V) := by kernel_rfl
theorem mixC_set (v V : V8) (k : Nat) (h : k < 8) : (mixC v V k).setIfInBounds k (.int .u64 ((add64 (v.list.getD k 0) (V.list.getD k 0) : Nat) : Int)) = mixC v V (k + 1) := by
  apply Array.ext_getElem?
  intro j
  rw [Array.getElem?_setIfInBounds]
  by_cases e : k = j
  · subst e
    rw [if_pos rfl, if_pos (by rw [mixC_size]; exact h), mixC_at _ _ _ _ h, if_pos (by omega)]
  · rw [if_neg e]
    rcases Nat.lt_or_ge j 8 with hj | hj
    · rw [mixC_at _ _ _ _ hj, mixC_at _ _ _ _ hj]
      simp only [show (j < k) ↔ (j < k + 1) from by omega]
    · rw [Array.getElem?_eq_none (by rw [mixC_size]; exact hj), Array.getElem?_eq_none (by rw [mixC_size]; exact hj)]

theorem store8 {P : Program} {ops : Array Oper} {rest : List Oper} {o : Oper} {a : Act} {w : World} {Q : Exit → Act → World → Prop} (hgd : o.guard = none) (ty : TypeId) (x y : Operand) (ho : o.op = .store ty x y)
    (g : Nat) (x0 x1 x2 x3 x4 x5 x6 x7 : Int) (hx : a.eval x = .pointer (some ⟨g, 0, none⟩)) (hy : a.eval y = .agg #[.int .u64 x0, .int .u64 x1, .int .u64 x2, .int .u64 x3, .int .u64 x4, .int .u64 x5, .int .u64 x6, .int .u64 x7])
    (t : TypeId) (old : Array Value) (hg : w.heap[g]? = some (.cells old t (0, 0))) (hi : (P.info? ty).map (·.size) = some 8) (hold : old.size = 8)
    (h : wpList P ops Q rest (a.put o.dst undef) (w.setRow g #[.int .u64 x0, .int .u64 x1, .int .u64 x2, .int .u64 x3, .int .u64 x4, .int .u64 x5, .int .u64 x6, .int .u64 x7])) : wpList P ops Q (o :: rest) a w :=
  wpList_store_row hgd ty x y ho g _ hx hy t old hg hi hold (by simp [Value.oneCell']) h

set_option maxRecDepth 100000 in
set_option maxHeartbeats 1600000 in
theorem press_any (v : V8) (hv : v.ok) (l : List UInt8) (hl : l.length = 128) (V9 : V8) (H9 : Hid (addV v (rounds (wordsL l 80) v 80) = V9)) (w : World) :
    Calls Try.prog 33 #[.agg (av v), .string (bs l)] w fun e w' => e = .returned (.agg (av V9)) ∧ Below w.heap.size w w' := by
  have hsz : ∀ l, (Try.prog.info? 86).map (·.size) = some (cellsN 80 l).size := fun l => by rw [cellsN_size]; kernel_rfl
  have hone : ∀ l, (cellsN 80 l).all (·.oneCell') = true := fun l => by
    rw [Array.all_eq_true]; intro i hi; simp [cellsN, Value.oneCell']
  have hsz8 : ∀ v, (Try.prog.info? 73).map (·.size) = some (av v).size := fun v => by rw [av_size]; kernel_rfl
  have hone8 : ∀ v, (av v).all (·.oneCell') = true := fun v => by simp [av, Value.oneCell']
  obtain ⟨zs, hzs, hz⟩ : ∃ zs, zs = cellsN 80 [] ∧ ∀ w, (zeroValue 86).run Try.prog w = .ok (.agg zs) w := ⟨_, rfl, fun w => by kernel_rfl⟩
  obtain ⟨W1, hW1⟩ : ∃ W1, W1 = ((w.alloc (.cells (av v) 73)).alloc (.cells (av ⟨0, 0, 0, 0, 0, 0, 0, 0⟩) 73)) := ⟨_, rfl⟩
  have hA1 : Blk W1 w.heap.size 73 (av v) := by rw [hW1]; exact (Blk.new w 73 _).alloc _
  have hR1 : Blk W1 (w.heap.size + 1) 73 (av ⟨0, 0, 0, 0, 0, 0, 0, 0⟩) := by
    rw [hW1]; have := Blk.new (w.alloc (.cells (av v) 73)) 73 (av ⟨0, 0, 0, 0, 0, 0, 0, 0⟩); simpa using this
  have hB1 : Below w.heap.size w W1 := by rw [hW1]; exact ((Below.refl _ w).alloc (Nat.le_refl _) _).alloc (by simp) _
  have hS1 : W1.heap.size = w.heap.size + 2 := by rw [hW1]; simp
  have HW1 := Lib.hid (show W1 = ((w.alloc (.cells (av v) 73)).alloc (.cells #[.int .u64 0, .int .u64 0, .int .u64 0, .int .u64 0, .int .u64 0, .int .u64 0, .int .u64 0, .int .u64 0] 73)) from hW1)
  have HA1 := Lib.hid hA1
  have HR1 := Lib.hid hR1
  have HB1 := Lib.hid hB1
  have HS1 := Lib.hid hS1
  have HZS := Lib.hid hzs
  clear hW1 hA1 hR1 hB1 hS1 hzs
  go_enter Try.func33, Try.ntmps33
  go_wp2_with fail
  rw [← HW1.out]
  refine (constants_c _).mono ?_
  rintro e w2 ⟨gK, rfl, hK, hgK, hb2⟩
  have HK := Lib.hid hK
  have HGK := Lib.hid hgK
  have HB2 := Lib.hid hb2
  clear hK hgK hb2
  go_wp2_with fail
  refine (words_c l hl _).mono ?_
  rintro e w3 ⟨rfl, hb3⟩
  have HB3 := Lib.hid hb3
  clear hb3
  have hzsz : zs.size = (cellsN 80 (wordsL l 80)).size := by rw [HZS.out, cellsN_size, cellsN_size]
  have hN : Blk (w3.alloc (.cells zs 86)) w3.heap.size 86 zs := Blk.new _ _ _
  have s2 := HB2.out.size
  have s3 := HB3.out.size
  have s1 := HS1.out
  have sK := HGK.out
  have lK := HK.out.lt
  have hA4 : Blk ((w3.alloc (.cells zs 86)).setRow w3.heap.size (cellsN 80 (wordsL l 80))) w.heap.size 73 (av v) :=
    Blk.setRow_far (((HA1.out.below HB2.out (by omega)).below HB3.out (by omega)).alloc _) (by omega) _
  have hN5 : Blk (((w3.alloc (.cells zs 86)).setRow w3.heap.size (cellsN 80 (wordsL l 80))).alloc (.cells (av ⟨0, 0, 0, 0, 0, 0, 0, 0⟩) 73)) (w3.heap.size + 1) 73 (av ⟨0, 0, 0, 0, 0, 0, 0, 0⟩) := by
    have := Blk.new ((w3.alloc (.cells zs 86)).setRow w3.heap.size (cellsN 80 (wordsL l 80))) 73 (av ⟨0, 0, 0, 0, 0, 0, 0, 0⟩)
    simpa using this
  go_wp2_with (first | (refine wpList_store_row rfl 86 _ _ rfl w3.heap.size (cellsN 80 (wordsL l 80)) rfl rfl 86 zs hN (hsz _) hzsz (hone _) ?_) | (refine wpList_load_row rfl 73 _ rfl w.heap.size rfl 73 (av v) (0, 0) _ hA4 Try.underlying73 rfl (hsz8 _) ?_) | (refine wpList_store_row rfl 73 _ _ rfl (w3.heap.size + 1) (av v) rfl rfl 73 (av ⟨0, 0, 0, 0, 0, 0, 0, 0⟩) hN5 (hsz8 _) rfl (hone8 _) ?_))
  obtain ⟨W5, hW5⟩ : ∃ W5, W5 = ((((w3.alloc (.cells zs 86)).setRow w3.heap.size (cellsN 80 (wordsL l 80))).alloc (.cells (av ⟨0, 0, 0, 0, 0, 0, 0, 0⟩) 73)).setRow (w3.heap.size + 1) (av v)) := ⟨_, rfl⟩
  have hA5 : Blk W5 w.heap.size 73 (av v) := by rw [hW5]; exact (hA4.alloc _).setRow_far (by omega) _
  have hR5 : Blk W5 (w.heap.size + 1) 73 (av ⟨0, 0, 0, 0, 0, 0, 0, 0⟩) := by
    rw [hW5]; exact ((((((HR1.out.below HB2.out (by omega)).below HB3.out (by omega)).alloc _).setRow_far (by omega) _).alloc _).setRow_far (by omega) _)
  have hK5 : Blk W5 gK 86 (cellsN 80 konst) := by
    rw [hW5]; exact ((((HK.out.below HB3.out (by omega)).alloc _).setRow_far (by omega) _).alloc _).setRow_far (by omega) _
  have hw5 : Blk W5 w3.heap.size 86 (cellsN 80 (wordsL l 80)) := by
    rw [hW5]; exact ((hN.setRow _).alloc _).setRow_far (by omega) _
  have hV5 : Blk W5 (w3.heap.size + 1) 73 (av v) := by rw [hW5]; exact hN5.setRow _
  have hb5 : Below w.heap.size w W5 := by
    rw [hW5]
    have b3 : Below w.heap.size w w3 := (HB1.out.trans (HB2.out.mono (by omega))).trans (HB3.out.mono (by omega))
    exact below_setRow ((below_setRow (b3.alloc (by omega) _) (by omega) _).alloc (by simp; omega) _) (by omega) _
  have HW5 := Lib.hid (show W5 = ((((w3.alloc (.cells zs 86)).setRow w3.heap.size (cellsN 80 (wordsL l 80))).alloc (.cells #[.int .u64 0, .int .u64 0, .int .u64 0, .int .u64 0, .int .u64 0, .int .u64 0, .int .u64 0, .int .u64 0] 73)).setRow (w3.heap.size + 1) (av v)) from hW5)
  rw [← HW5.out]
  obtain ⟨gW, hgW⟩ : ∃ gW, gW = w3.heap.size := ⟨_, rfl⟩
  rw [← hgW] at hw5 hV5 s3 ⊢
  have HR5 := Lib.hid hR5
  have HA5 := Lib.hid hA5
  have HK5 := Lib.hid hK5
  have HWd := Lib.hid hw5
  have HV5 := Lib.hid hV5
  have HB5 := Lib.hid hb5
  have hd : w.heap.size + 2 ≤ gK ∧ gK < gW := by omega
  have HD := Lib.hid hd
  clear hW5 HW5 hA5 hR5 hK5 hw5 hV5 hb5 hA4 hN5 hN hzsz s1 s2 s3 sK lK HB3 hgW HK HGK HB2 HA1 HR1 HB1 HS1 HZS hz HW1 hd
  go_loopw [18] (fun i wr => ∃ k : Nat, k ≤ 80 ∧ i = .int .i64 k ∧ Blk wr (gW + 1) 73 (av (rounds (wordsL l 80) v k)) ∧ W5.grownBy wr (some (gW + 1))) (fun i _ => 80 - (intOf i).toNat)
  case atStart => exact ⟨0, by omega, rfl, HV5.out, gb_refl _ _⟩
  case round =>
    obtain ⟨k, hk, rfl, hV, hg⟩ := hrel
    rcases Nat.lt_or_ge k 80 with hlt | hge
    · have hok := rounds_ok (wordsL l 80) hv k
      have hnx : rnd (rounds (wordsL l 80) v k) (konst.getD k 0) ((wordsL l 80).getD k 0) = rounds (wordsL l 80) v (k + 1) := rfl
      have hwl := wordsL_lt l 80 k
      have hkk : wr.cell? ⟨gK, k, none⟩ = some (.int .u64 ((konst.getD k 0 : Nat) : Int)) := (Blk.grown HK5.out hg (by simp; have := HD.out; omega)).at_ k (cellsN_at _ _ _ hlt)
      have hww : wr.cell? ⟨gW, k, none⟩ = some (.int .u64 (((wordsL l 80).getD k 0 : Nat) : Int)) := (Blk.grown HWd.out hg (by simp)).at_ k (cellsN_at _ _ _ hlt)
      generalize hV2 : rounds (wordsL l 80) v (k + 1) = V2 at *
      have HX2 := Lib.hid hV2
      clear hV2
      generalize rounds (wordsL l 80) v k = V at *
      generalize (wordsL l 80).getD k 0 = X at *
      generalize konst.getD k 0 = Y at *
      have c0 : wr.cell? ⟨gW + 1, 0, none⟩ = some (.int .u64 (V.a : Int)) := hV.at_ 0 rfl
      have c1 : wr.cell? ⟨gW + 1, 1, none⟩ = some (.int .u64 (V.b : Int)) := hV.at_ 1 rfl
      have c2 : wr.cell? ⟨gW + 1, 2, none⟩ = some (.int .u64 (V.c : Int)) := hV.at_ 2 rfl
      have c3 : wr.cell? ⟨gW + 1, 3, none⟩ = some (.int .u64 (V.d : Int)) := hV.at_ 3 rfl
      have c4 : wr.cell? ⟨gW + 1, 4, none⟩ = some (.int .u64 (V.e : Int)) := hV.at_ 4 rfl
      have c5 : wr.cell? ⟨gW + 1, 5, none⟩ = some (.int .u64 (V.f : Int)) := hV.at_ 5 rfl
      have c6 : wr.cell? ⟨gW + 1, 6, none⟩ = some (.int .u64 (V.g : Int)) := hV.at_ 6 rfl
      have c7 : wr.cell? ⟨gW + 1, 7, none⟩ = some (.int .u64 (V.h : Int)) := hV.at_ 7 rfl
      have hSg : IntKind.u64.signed = false := rfl
      have hM : IntKind.u64.max = 18446744073709551615 := rfl
      have HV := Lib.hid hV
      have HG := Lib.hid hg
      have HX := Lib.hid hnx
      have HO := Lib.hid hok
      clear hV hg hnx hok
      go_wp2_with fail
      go_quiet (fail)
      rename Nat => n1
      go_wp2_with fail
      go_quiet (first | (go_at_call 40; refine (turn_s _ _ HO.out.2.2.2.2.1 (by decide) (by decide) _).mono ?_; rintro e w'' ⟨rfl, rfl⟩; exact ⟨rfl, _, rfl⟩))
      rename Nat => n2
      go_wp2_with fail
      go_quiet (first | (go_at_call 40; refine (turn_s _ _ HO.out.1 (by decide) (by decide) _).mono ?_; rintro e w'' ⟨rfl, rfl⟩; exact ⟨rfl, _, rfl⟩))
      rw [xx_code V Y X HO.out, yy_code V HO.out]
      rename Nat => n3
      obtain ⟨wq, hq⟩ : ∃ wq, ((wr.drewN n1).drewN n2).drewN n3 = wq := ⟨_, rfl⟩
      have hVq : Blk wq (gW + 1) 73 (av V) := ((HV.out.drewN _).drewN _).dr hq
      have hGq : W5.grownBy wq (some (gW + 1)) := gb_drewN' (gb_drewN (gb_drewN HG.out _) _) hq
      rw [hq]
      have hset : ∀ A, A = av V2 → Blk (wq.setRow (gW + 1) A) (gW + 1) 73 (av V2) := fun A h => h ▸ hVq.setRow A
      have HS := Lib.hid hset
      have HGQ := Lib.hid hGq
      replace c0 : wq.cell? ⟨gW + 1, 0, none⟩ = some (.int .u64 (V.a : Int)) := hVq.at_ 0 rfl
      replace c1 : wq.cell? ⟨gW + 1, 1, none⟩ = some (.int .u64 (V.b : Int)) := hVq.at_ 1 rfl
      replace c2 : wq.cell? ⟨gW + 1, 2, none⟩ = some (.int .u64 (V.c : Int)) := hVq.at_ 2 rfl
      replace c3 : wq.cell? ⟨gW + 1, 3, none⟩ = some (.int .u64 (V.d : Int)) := hVq.at_ 3 rfl
      replace c4 : wq.cell? ⟨gW + 1, 4, none⟩ = some (.int .u64 (V.e : Int)) := hVq.at_ 4 rfl
      replace c5 : wq.cell? ⟨gW + 1, 5, none⟩ = some (.int .u64 (V.f : Int)) := hVq.at_ 5 rfl
      replace c6 : wq.cell? ⟨gW + 1, 6, none⟩ = some (.int .u64 (V.g : Int)) := hVq.at_ 6 rfl
      clear hq hset hGq hww hkk hwl hM hSg c7
      have h26 : (Try.prog.info? 73).map (·.size) = some 8 := by kernel_rfl
      go_wp2_with (refine store8 rfl 73 _ _ rfl (gW + 1) _ _ _ _ _ _ _ _ rfl rfl 73 (av V) hVq h26 rfl ?_)
      refine ⟨⟨k + 1, by omega, by go_num, ?_, ?_⟩, by simp [intOf]; omega⟩
      · rw [HX2.out]; exact HS.out _ ((rnd_cells V Y X).trans (congrArg av HX.out))
      · exact gb_setRow HGQ.out (Or.inl rfl) _
    · obtain rfl : k = 80 := by omega
      have hA6 : Blk wr w.heap.size 73 (av v) := HA5.out.grown hg (by simp; have := HD.out; omega)
      have hR6 : Blk wr (w.heap.size + 1) 73 (av ⟨0, 0, 0, 0, 0, 0, 0, 0⟩) := HR5.out.grown hg (by simp; have := HD.out; omega)
      have hb6 : Below w.heap.size w wr := below_gb HB5.out hg (by have := HD.out; omega) HB5.out.size
      have hfin := H9.out
      clear H9
      have hdd : gW + 1 ≠ w.heap.size := by have := HD.out; omega
      have hls : w.heap.size + 1 < wr.heap.size := hR6.lt
      obtain ⟨w6, hw6⟩ : ∃ w6, w6 = wr := ⟨_, rfl⟩
      rw [← hw6] at hV hA6 hR6 hb6 hls ⊢
      clear hw6
      rw [show ((80 : Nat) : Int) = (80 : Int) from rfl]
      generalize rounds (wordsL l 80) v 80 = V at *
      have HF := Lib.hid hfin
      have HV := Lib.hid hV
      have HA6 := Lib.hid hA6
      have HR6 := Lib.hid hR6
      have HB6 := Lib.hid hb6
      clear hV hg hA6 hR6 hb6 hfin
      go_wp2_with fail
      go_loopw [102] (fun i ws => ∃ k : Nat, k ≤ 8 ∧ i = .int .i64 k ∧ Blk ws w.heap.size 73 (mixC v V k) ∧ w6.grownBy ws (some w.heap.size)) (fun i _ => 8 - (intOf i).toNat)
      case atStart => exact ⟨0, by omega, rfl, by rw [mixC_zero]; exact HA6.out, gb_refl _ _⟩
      case round =>
        obtain ⟨k, hk, rfl, hM, hg⟩ := hrel
        rcases Nat.lt_or_ge k 8 with hlt | hge
        · have c0 := hM.at_ k (mixC_at v V k k hlt)
          rw [if_neg (Nat.lt_irrefl k)] at c0
          have c1 : wr.cell? ⟨gW + 1, k, none⟩ = some (.int .u64 ((V.list.getD k 0 : Nat) : Int)) := (HV.out.grown hg (by simp; omega)).at_ k (by rw [av_list]; exact cellsN_at 8 _ _ hlt)
          have hfr := hM.frozen k
          have hST := hM.set_ k (.int .u64 ((add64 (v.list.getD k 0) (V.list.getD k 0) : Nat) : Int))
          rw [mixC_set v V k hlt] at hST
          have hGS : w6.grownBy (wr.setCell ⟨w.heap.size, k, none⟩ (.int .u64 ((add64 (v.list.getD k 0) (V.list.getD k 0) : Nat) : Int))) (some w.heap.size) := gb_setCell hg (Or.inl rfl) _
          have hac := add_code (v.list.getD k 0) (V.list.getD k 0)
          generalize v.list.getD k 0 = A at *
          generalize V.list.getD k 0 = B at *
          have HST := Lib.hid hST
          have HGS := Lib.hid hGS
          have HAC := Lib.hid hac
          have hk8 : (k : Int) < 8 := by omega
          clear hST hGS hac hM hg
          go_wp2_with fail
          refine region_tail 8 (by kernel_rfl) (by kernel_rfl) ?_
          simp only [List.take_succ_cons, List.take_zero, List.drop_succ_cons, List.drop_zero]
          repeat still_step
          refine wpStill_nil ?_
          rw [HAC.out]
          go_wp2_with fail
          refine ⟨⟨k + 1, by omega, by go_num, ?_, ?_⟩, by simp [intOf]; omega⟩
          · exact HST.out.drew
          · exact gb_drew HGS.out
        · obtain rfl : k = 8 := by omega
          rw [mixC_eight, HF.out] at hM
          have hR7 : Blk wr (w.heap.size + 1) 73 (av ⟨0, 0, 0, 0, 0, 0, 0, 0⟩) := HR6.out.grown hg (by simp)
          have hB7 : Below w.heap.size w wr := below_gb HB6.out hg (Nat.le_refl _) (by omega)
          have hset := hR7.setRow (av V9)
          go_wp2_with (first | (refine wpList_load_row rfl 73 _ rfl w.heap.size rfl 73 (av V9) (0, 0) _ hM Try.underlying73 rfl (hsz8 _) ?_) | (refine wpList_store_row rfl 73 _ _ rfl (w.heap.size + 1) (av V9) rfl rfl 73 (av ⟨0, 0, 0, 0, 0, 0, 0, 0⟩) hR7 (hsz8 _) rfl (hone8 _) ?_))
          refine bodyPost_ret (v := .agg _) (results_cell_row rfl _ _ (w.heap.size + 1) 73 _ (0, 0) _ (by simp [Act.put]) hset Try.underlying73 rfl (hsz8 _)) rfl ⟨rfl, ?_⟩
          exact below_setRow hB7 (by omega) _
theorem press_c (v : V8) (hv : v.ok) (l : List UInt8) (hl : l.length = 128) (w : World) :
    Calls Try.prog 33 #[.agg (av v), .string (bs l)] w fun e w' => e = .returned (.agg (av (pressL v l))) ∧ Below w.heap.size w w' := press_any v hv l hl _ (Lib.hid rfl) w
end Go.Proofs.Ytnfbakldpjmbnaa
