/- The walk of words: a block's numbers, and those that follow of them. -/
import Derived.Test.YtnfbakldpjmbnaaShPlain
import Derived.StillTailTactics
import Derived.Laws.Tables
namespace Go.Proofs.Ytnfbakldpjmbnaa
open Go.RowKit
attribute [local go_sem] bs_size bs_getElem bs_list bs_append

/-- cells of numbers, n of them, 0 where the list has no more -/
def cellsN (n : Nat) (l : List Nat) : Array Value := Array.ofFn (n := n) fun i => Value.int .u64 ((l.getD i 0 : Nat) : Int)
theorem cellsN_at (n : Nat) (l : List Nat) (i : Nat) (h : i < n) : (cellsN n l)[i]? = some (.int .u64 ((l.getD i 0 : Nat) : Int)) := by simp [cellsN, h]
theorem cellsN_size (n : Nat) (l : List Nat) : (cellsN n l).size = n := by simp [cellsN]
theorem cellsN_set (n : Nat) (l : List Nat) (i x : Nat) (h : i < n) (l' : List Nat) (h1 : l'.getD i 0 = x) (h2 : ∀ j, j < n → j ≠ i → l'.getD j 0 = l.getD j 0) : (cellsN n l).setIfInBounds i (.int .u64 (x : Int)) = cellsN n l' := by
  apply Array.ext_getElem?
  intro j
  rw [Array.getElem?_setIfInBounds]
  by_cases e : i = j
  · subst e
    rw [if_pos rfl, if_pos (by rw [cellsN_size]; exact h), cellsN_at _ _ _ h, h1]
  · rw [if_neg e]
    rcases Nat.lt_or_ge j n with hj | hj
    · rw [cellsN_at _ _ _ hj, cellsN_at _ _ _ hj, h2 j hj (fun h => e h.symm)]
    · rw [Array.getElem?_eq_none (by rw [cellsN_size]; exact hj), Array.getElem?_eq_none (by rw [cellsN_size]; exact hj)]
theorem cellsN_snoc (n : Nat) (l : List Nat) (x : Nat) (h : l.length < n) : (cellsN n l).setIfInBounds l.length (.int .u64 (x : Int)) = cellsN n (l ++ [x]) :=
  cellsN_set n l l.length x h _ (by simp) (fun j _ hj => by
    simp only [List.getD_eq_getElem?_getD]
    rcases Nat.lt_or_ge j l.length with h | h
    · rw [List.getElem?_append_left h]
    · rw [List.getElem?_eq_none (show (l ++ [x]).length ≤ j from by simp; omega), List.getElem?_eq_none h])

theorem turn_s (x n : Nat) (hx : x < 18446744073709551616) (hn : 1 ≤ n) (hn2 : n ≤ 63) (w : World) :
    Calls Try.prog 40 #[.int .u64 x, .int .i64 n] w fun e w' => e = .returned (.int .u64 (tr x n : Nat)) ∧ w' = w :=
  (turn_c x n hx hn hn2 w).mono fun _ _ ⟨h, e⟩ => ⟨h, e.symm⟩
theorem wordsL_lt (l : List UInt8) (k j : Nat) : W64 ((wordsL l k).getD j 0) := by
  induction k generalizing j with
  | zero => simp [wordsL, W64]
  | succ k ih =>
    simp only [wordsL, stepW, List.getD_eq_getElem?_getD, List.getElem?_append]
    split
    · have := ih j; simpa using this
    · rcases Nat.eq_zero_or_pos (j - (wordsL l k).length) with h | h
      · rw [h]; exact nextW_lt _ _
      · rw [List.getElem?_eq_none (by simp; omega)]; simp [W64]
theorem add_code (a b : Nat) : IntKind.u64.wrap ((a : Int) + (b : Int)) = ((add64 a b : Nat) : Int) := by
  rw [IntKind.wrap_u64]; unfold add64; omega
theorem div_code (a n : Nat) : (a : Int) / (n : Int) = ((a / n : Nat) : Int) := by rw [Int.natCast_ediv]
theorem next_code (A15 A2 A16 A7 : Nat) (h15 : W64 A15) (h2 : W64 A2) :
    IntKind.u64.wrap (IntKind.u64.wrap (IntKind.u64.wrap ((A16 : Int) + A7) + bits .xor .u64 (bits .xor .u64 (tr A15 1 : Nat) (tr A15 8 : Nat)) ((A15 : Int) / 128)) + bits .xor .u64 (bits .xor .u64 (tr A2 19 : Nat) (tr A2 61 : Nat)) ((A2 : Int) / 64))
      = ((add64 (add64 (add64 A16 A7) (s0 A15)) (s1 A2) : Nat) : Int) := by
  rw [show ((A15 : Int) / 128) = ((A15 / 128 : Nat) : Int) from div_code A15 128, show ((A2 : Int) / 64) = ((A2 / 64 : Nat) : Int) from div_code A2 64]
  rw [u64_xor_nat _ _ (tr_lt h15) (tr_lt h15), u64_xor_nat _ _ (tr_lt h2) (tr_lt h2)]
  rw [u64_xor_nat _ _ (xor_lt64 (tr_lt h15) (tr_lt h15)) (div_lt64 h15), u64_xor_nat _ _ (xor_lt64 (tr_lt h2) (tr_lt h2)) (div_lt64 h2)]
  rw [add_code, add_code, add_code]
  rfl

theorem cell_dr {w wq : World} {n : Nat} (h : w.drewN n = wq) {p : Addr} {v : Value} (hc : w.cell? p = some v) : wq.cell? p = some v := by subst h; exact hc
theorem frozen_dr {w wq : World} {n : Nat} (h : w.drewN n = wq) {p : Addr} {v : Bool} (hc : w.frozen? p = v) : wq.frozen? p = v := by subst h; exact hc
theorem region_tail {P : Program} {id : Nat} {Q : Exit → Act → World → Prop} {a : Act} {w : World} {l : List Oper} (n : Nat) (hm : P.follows .mixedOrders = true) (hB : Region.lexTailB .any l.toArray n = true)
    (h : wpStill P l.toArray w.drew (fun a' => wpList P l.toArray Q (l.drop n) a' w.drew) (l.take n) a) : (Code.region id l.toArray true).wp P Q a w := wp_region_still_tail n hm hB h
theorem below_setRow {B : Nat} {w0 w : World} (h : Below B w0 w) {g : Nat} (hg : B ≤ g) (cs : Array Value) : Below B w0 (w.setRow g cs) :=
  ⟨h.os, h.tape, h.output, by simpa using h.size, fun i hi => (setRow_other w g i cs (by omega)).trans (h.block i hi)⟩

set_option maxRecDepth 100000 in
set_option maxHeartbeats 1600000 in
theorem words_c (l : List UInt8) (hl : l.length = 128) (w : World) :
    Calls Try.prog 39 #[.string (bs l)] w fun e w' => e = .returned (.agg (cellsN 80 (wordsL l 80))) ∧ Below w.heap.size w w' := by
  obtain ⟨zs, hzs, hz⟩ : ∃ zs, zs = cellsN 80 [] ∧ ∀ w, (zeroValue 86).run Try.prog w = .ok (.agg zs) w := ⟨_, rfl, fun w => by kernel_rfl⟩
  have HZS := Lib.hid hzs
  clear hzs
  go_enter Try.func39, Try.ntmps39
  go_wp2_with fail
  go_loopw [6] (fun i wr => ∃ k : Nat, k ≤ 80 ∧ i = .int .i64 k ∧ Blk wr w.heap.size 86 (cellsN 80 (wordsL l k)) ∧ Below w.heap.size w wr) (fun i _ => 80 - (intOf i).toNat)
  case atStart => exact ⟨0, by omega, rfl, by rw [HZS.out]; exact Blk.new w 86 _, (Below.refl _ w).alloc (Nat.le_refl _) _⟩
  case round =>
    obtain ⟨k, hk, rfl, hT, hb⟩ := hrel
    rcases Nat.lt_or_ge k 80 with hlt | hge
    · rcases Nat.lt_or_ge k 16 with h16 | h16
      · have hl2 : ((l.drop (8 * k)).take (128 - 8 * k)) = l.drop (8 * k) := List.take_of_length_le (by simp; omega)
        have hnx : nextW l (wordsL l k) = num8 ((l.drop (8 * k)).take 8) := by unfold nextW; rw [wordsL_len, if_pos h16]
        have hset := cellsN_snoc 80 (wordsL l k) (nextW l (wordsL l k)) (by rw [wordsL_len]; exact hlt)
        rw [wordsL_len] at hset
        have hTS := Blk.set_ hT k (.int .u64 ((nextW l (wordsL l k) : Nat) : Int))
        rw [hset] at hTS
        have hold := Blk.cell hT k
        rw [cellsN_at _ _ _ hlt] at hold
        have hfr := Blk.frozen hT k
        have HTS := Lib.hid hTS
        have HB := Lib.hid hb
        have HN := Lib.hid hnx
        have HL := Lib.hid hl2
        clear hTS hb hT hset hnx hl2
        go_wp2_with fail
        rw [bs_extract, HL.out]
        refine (number_c (l.drop (8 * k)) (by simp; omega) (by simp; omega) _).mono ?_
        rintro e w1 ⟨rfl, rfl⟩
        rw [← HN.out]
        go_wp2_with fail
        exact ⟨⟨k + 1, by omega, by go_num, HTS.out, HB.out.setCell (Nat.le_refl _) _⟩, by simp [intOf]; omega⟩
      · have hW : ∀ j, j < k → wr.cell? ⟨w.heap.size, j, none⟩ = some (.int .u64 (((wordsL l k).getD j 0 : Nat) : Int)) := fun j hj => (Blk.cell hT j).trans (cellsN_at _ _ _ (by omega))
        have hWl := fun j => wordsL_lt l k j
        have hnx : nextW l (wordsL l k) = add64 (add64 (add64 ((wordsL l k).getD (k - 16) 0) ((wordsL l k).getD (k - 7) 0)) (s0 ((wordsL l k).getD (k - 15) 0))) (s1 ((wordsL l k).getD (k - 2) 0)) := by
          unfold nextW; rw [wordsL_len, if_neg (by omega)]
        have e15 : (k : Int) - 15 = ((k - 15 : Nat) : Int) := by omega
        have e2 : (k : Int) - 2 = ((k - 2 : Nat) : Int) := by omega
        have e16 : (k : Int) - 16 = ((k - 16 : Nat) : Int) := by omega
        have e7 : (k : Int) - 7 = ((k - 7 : Nat) : Int) := by omega
        have i15 := hW (k - 15) (by omega)
        have i2 := hW (k - 2) (by omega)
        have i16 := hW (k - 16) (by omega)
        have i7 := hW (k - 7) (by omega)
        have l15 := hWl (k - 15)
        have l2 := hWl (k - 2)
        have l16 := hWl (k - 16)
        have l7 := hWl (k - 7)
        have hset := cellsN_snoc 80 (wordsL l k) (nextW l (wordsL l k)) (by rw [wordsL_len]; exact hlt)
        rw [wordsL_len] at hset
        have hTS := Blk.set_ hT k (.int .u64 ((nextW l (wordsL l k) : Nat) : Int))
        rw [hset] at hTS
        have hold := Blk.cell hT k
        rw [cellsN_at _ _ _ hlt] at hold
        have hfr := Blk.frozen hT k
        rw [show wordsL l k ++ [nextW l (wordsL l k)] = wordsL l (k + 1) from rfl] at hTS
        generalize hws : wordsL l (k + 1) = ws1 at *
        clear hset hW hWl hT
        have HWS := Lib.hid hws
        clear hws
        generalize nextW l (wordsL l k) = X at *
        generalize (wordsL l k).getD (k - 15) 0 = A15 at *
        generalize (wordsL l k).getD (k - 2) 0 = A2 at *
        generalize (wordsL l k).getD (k - 16) 0 = A16 at *
        generalize (wordsL l k).getD (k - 7) 0 = A7 at *
        have HTS := Lib.hid hTS
        have HB := Lib.hid hb
        have HN := Lib.hid hnx
        have HC := Lib.hid (next_code A15 A2 A16 A7 l15 l2)
        clear hTS hb hnx
        go_wp2_with fail
        go_quiet (fail)
        generalize hwq : wr.drewN nq = wq
        have i16 := cell_dr hwq i16
        have i7 := cell_dr hwq i7
        have hold := cell_dr hwq hold
        have hfr := frozen_dr hwq hfr
        have HTS : Hid (Blk (wq.setCell { block := w.heap.size, off := k } (Value.int IntKind.u64 ↑X)) w.heap.size 86 (cellsN 80 ws1)) := Lib.hid (by rw [← hwq]; exact HTS.out)
        have HB : Hid (Below w.heap.size w wq) := Lib.hid (by rw [← hwq]; exact ⟨HB.out.os, HB.out.tape, HB.out.output, HB.out.size, HB.out.block⟩)
        have w16 : IntKind.i64.wrap ((k - 16 : Nat) : Int) = ((k - 16 : Nat) : Int) := by rw [IntKind.wrap_i64]; omega
        have w7 : IntKind.i64.wrap ((k - 7 : Nat) : Int) = ((k - 7 : Nat) : Int) := by rw [IntKind.wrap_i64]; omega
        have b16 : ((k - 16 : Nat) : Int) < 80 := by omega
        have b7 : ((k - 7 : Nat) : Int) < 80 := by omega
        have b0 : (k : Int) < 80 := by omega
        clear hwq
        go_wp2_with fail
        refine region_tail 29 (by kernel_rfl) (by kernel_rfl) ?_
        simp only [List.take_succ_cons, List.take_zero, List.drop_succ_cons, List.drop_zero]
        repeat (first | still_step | still_call (turn_s _ _ (by first | exact l15 | exact l2) (by decide) (by decide) _))
        refine wpStill_nil ?_
        rw [HC.out, ← HN.out]
        go_wp2_with fail
        refine ⟨⟨k + 1, by omega, by go_num, ?_, ?_⟩, by simp [intOf]; omega⟩
        · rw [HWS.out]; exact Blk.drew HTS.out
        · exact (HB.out.setCell (Nat.le_refl _) _).drew
    · obtain rfl : k = 80 := by omega
      have hsz : ∀ l, (Try.prog.info? 86).map (·.size) = some (cellsN 80 l).size := fun l => by rw [cellsN_size]; kernel_rfl
      have hone : ∀ l, (cellsN 80 l).all (·.oneCell') = true := fun l => by
        rw [Array.all_eq_true]; intro i hi; simp [cellsN, Value.oneCell']
      go_wp2_with (first | (refine wpList_load_row rfl 86 _ rfl w.heap.size rfl 86 (cellsN 80 (wordsL l 80)) (0, 0) _ hT Try.underlying86 rfl (hsz _) ?_) | (refine wpList_store_row rfl 86 _ _ rfl w.heap.size (cellsN 80 (wordsL l 80)) rfl rfl 86 (cellsN 80 (wordsL l 80)) hT (hsz _) rfl (hone _) ?_))
      refine bodyPost_ret (v := .agg _) (results_cell_row rfl _ _ w.heap.size 86 _ (0, 0) _ (by simp [Act.put]) (setRow_heap _ _ _ _ _ _ hT) Try.underlying86 rfl (hsz _)) rfl ⟨rfl, ?_⟩
      exact below_setRow hb (Nat.le_refl _) _
end Go.Proofs.Ytnfbakldpjmbnaa
