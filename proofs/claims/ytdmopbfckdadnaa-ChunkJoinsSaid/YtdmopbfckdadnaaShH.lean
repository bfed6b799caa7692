/- The document's turn, its draws counted; the code's words of the document's Sum. -/
import Derived.Test.YtdmopbfckdadnaaShG
import Derived.Deep.RegionLaw
import Derived.BigQuiet
namespace Go.Proofs.Ytdmopbfckdadnaa
open Go.RowKit

set_option maxRecDepth 100000 in
set_option maxHeartbeats 1600000 in
theorem turn_q (x n : Nat) (hx : W64 x) (hn : 1 ≤ n) (hn2 : n ≤ 63) (w : World) :
    Calls Try.prog 40 #[.int .u64 x, .int .i64 n] w fun e w' => e = .returned (.int .u64 (tr x n : Nat)) ∧ ∃ m, w' = w.drewN m := by
  have h1 : (0 : Int) ≤ (n : Int) := by omega
  have h2 : (0 : Int) ≤ 64 - (n : Int) := by omega
  go_enter Try.func40, Try.ntmps40
  go_wp2_with fail
  go_quiet (fail)
  go_wp2_with fail
  go_ret
  exact ⟨by rw [← tr_code' x n hx]; rfl, nq, rfl⟩
theorem s0_code (a : Nat) (h : W64 a) : bits .xor .u64 (bits .xor .u64 (tr a 1 : Nat) (tr a 8 : Nat)) ((a : Int) / 128) = ((s0 a : Nat) : Int) := by
  rw [show ((a : Int) / 128) = ((a / 128 : Nat) : Int) from div_code a 128, u64_xor_nat _ _ (tr_lt h) (tr_lt h), u64_xor_nat _ _ (xor_lt64 (tr_lt h) (tr_lt h)) (div_lt64 h)]
  rfl
theorem s1_code (a : Nat) (h : W64 a) : bits .xor .u64 (bits .xor .u64 (tr a 19 : Nat) (tr a 61 : Nat)) ((a : Int) / 64) = ((s1 a : Nat) : Int) := by
  rw [show ((a : Int) / 64) = ((a / 64 : Nat) : Int) from div_code a 64, u64_xor_nat _ _ (tr_lt h) (tr_lt h), u64_xor_nat _ _ (xor_lt64 (tr_lt h) (tr_lt h)) (div_lt64 h)]
  rfl
/-- numbers as cells -/
def nv (l : List Nat) : List Value := l.map fun (n : Nat) => Value.int .u64 (n : Int)
theorem nv_append (a b : List Nat) : nv (a ++ b) = nv a ++ nv b := by simp [nv]
theorem nv_at (l : List Nat) (j : Nat) (h : j < l.length) : (nv l)[j]? = some (.int .u64 ((l.getD j 0 : Nat) : Int)) := by simp [nv, h]
theorem nv_one (l : List Nat) : ∀ u ∈ nv l, u.oneCell' = true := by
  intro u hu
  obtain ⟨_, _, rfl⟩ := List.mem_map.1 hu
  rfl
theorem info25 : (Try.prog.info? 57).map (fun i => (i.zero, i.size, i.bytes)) = some (some (.int .u64 0), 1, 8) := by kernel_rfl
theorem OwnC.lit (w : World) (B n : Nat) (t : TypeId) (cs : Array Value) (hB : B ≤ w.heap.size) (hn : cs.size = n) (hm : n ≤ maxLen) : OwnC (w.alloc (.cells cs t)) B 1 (.slice (some ⟨w.heap.size, 0, none⟩) n n) n cs.toList :=
  OwnC.of_row (e := t) ⟨by simp [hn], .inr ⟨w.heap.size, n, cs, rfl, hB, heap_alloc_new w _, Nat.le_refl _, hm, by rw [Nat.mul_one]; exact hn, List.take_of_length_le (by rw [Nat.mul_one, ← hn, Array.length_toList]; exact Nat.le_refl _)⟩⟩
theorem wordsL_low (l : List UInt8) (q : Nat) (h : q < 16) : wordsL l (q + 1) = wordsL l q ++ [num8 ((l.drop (8 * q)).take 8)] := by
  simp only [wordsL, stepW]; unfold nextW; rw [wordsL_len, if_pos h]
theorem wordsL_high (l : List UInt8) (q : Nat) (h : 16 ≤ q) : wordsL l (q + 1) = wordsL l q ++ [add64 (add64 (add64 ((wordsL l q).getD (q - 16) 0) ((wordsL l q).getD (q - 7) 0)) (s0 ((wordsL l q).getD (q - 15) 0))) (s1 ((wordsL l q).getD (q - 2) 0))] := by
  simp only [wordsL, stepW]; unfold nextW; rw [wordsL_len, if_neg (by omega)]
theorem byte_at (D : List UInt8) (q m : Nat) (hm : m < 8) (h : 8 * q + m < D.length) : ∃ hm' : m < ((D.drop (8 * q)).take 8).length, ((D.drop (8 * q)).take 8)[m] = D[8 * q + m] := by
  exact ⟨by rw [List.length_take, List.length_drop]; omega, by rw [List.getElem_take, List.getElem_drop]⟩
/-- an append in a region that draws, known beforehand -/
theorem step_append_eq {P : Program} {ops : Array Oper} {o : Oper} {a : Act} {w : World} {K : Act → World → Prop} {Q : Exit → Act → World → Prop} {E : Prop} (hgd : o.guard = none) (s x : Operand) (t u : TypeId)
    (ho : o.op = .call { callee := .builtin .append, args := #[s, x], argTypes := #[t, u] }) (v y : Value) (hs : a.eval s = v) (hx : a.eval x = y) {v' : Value} {w' : World} (hr : (Builtin.append_ #[t, u] o.type #[v, y]).run P w = .ok v' w')
    (h : K (a.put o.dst v') w') : if Region.wanted o (yielded ops a.tmps) = true then Oper.wp P o a w K Q else E := by
  have hw : Region.wanted o (yielded ops a.tmps) = true := by simp [Region.wanted, hgd]
  rw [if_pos hw]
  unfold Oper.wp execOp
  simp only [ho, resolve, invoke, builtin, Sem.run_bind, Sem.run_pure, Result.andThen_ok, List.map_toArray, List.map_cons, List.map_nil, hs, hx, hr]
  exact h
theorem still_of_quiet {P : Program} {ops : Array Oper} {w : World} {Q : Act → Prop} : ∀ (l : List Oper) (a : Act), wpQuiet P ops (fun w' => w' = w) Q l a → wpStill P ops w Q l a
  | [], _, h => h
  | o :: rest, a, h => by
    unfold wpQuiet at h
    unfold wpStill
    by_cases hw : Region.wanted o (yielded ops a.tmps) = true
    · rw [if_pos hw] at h ⊢
      obtain ⟨v, h1, h2⟩ := h
      have h3 := h1 w rfl
      have ih := still_of_quiet rest _ h2
      unfold Oper.still
      unfold Oper.quietAt at h3
      generalize (execOp a.eval o).run P w = r at *
      cases r with
      | ok n w' =>
        cases n <;> simp only [Oper.quietUpon] at h3 <;> simp only [Oper.stillUpon]
        case value u => obtain ⟨e1, e2⟩ := h3; exact ⟨e1, by rw [e2]; exact ih⟩
        case skip => obtain ⟨e1, e2⟩ := h3; exact ⟨e1, by rw [← e2]; exact ih⟩
        case enter f args => obtain ⟨e1, hc⟩ := h3; exact ⟨e1, v, hc, ih⟩
      | halt x w' => simp only [Oper.quietUpon] at h3
    · rw [if_neg hw] at h ⊢
      exact still_of_quiet rest _ h
/-- A region whose first n operations read and whose others stand in one forced order: the cheap walk. -/
theorem region_tail_q {P : Program} {id : Nat} {Q : Exit → Act → World → Prop} {a : Act} {w : World} {l : List Oper} (n : Nat) (hm : P.follows .mixedOrders = true) (hB : Region.lexTailB .any l.toArray n = true)
    (h : wpQuiet P l.toArray (fun w' => w' = w.drew) (fun a' => wpList P l.toArray Q (l.drop n) a' w.drew) (l.take n) a) : (Code.region id l.toArray true).wp P Q a w := region_tail n hm hB (still_of_quiet _ _ h)
theorem av_nv (v : V8) : (av v).toList = nv v.list := rfl
end Go.Proofs.Ytdmopbfckdadnaa
