/- The walks of at, slices.Delete, Take, Twice. -/
import Derived.Test.YtnefjmgpbbgifaaB
import Derived.Lib.SliceRun
namespace Go.Proofs.Ytnefjmgpbbgifaa
open Go.RowKit
attribute [local go_sem] bs_size bs_getElem bs_list bs_append

def pk0 : Pk := ⟨0, 0, []⟩

set_option maxRecDepth 100000 in
set_option maxHeartbeats 1600000 in
theorem at_ok (gN : Nat) (d s : Int) (v : Value) (ps : List Pk) (k : Nat) (w : World) (hN : NetI w gN d s v ps) (hk : k < ps.length) (hm : ps.length ≤ 1000000) :
    Calls Try.prog 26 #[.pointer (some ⟨gN, 0, none⟩), .int .i64 k] w fun e w' => e = .returned (.tuple #[pv ps[k], .int .i64 0]) ∧ Below w.heap.size w w' := by
  have hl := hN.lt
  have hc := hN.c1
  obtain ⟨g, cap, rfl, hgN, hgl, e0, e1, e2⟩ := hN.at hk
  have h1 : decide ((k : Int) < 0) = false := decide_eq_false (by omega)
  have h2 : decide ((k : Int) ≥ ps.length) = false := decide_eq_false (by omega)
  generalize ps[k] = x at *
  clear hN
  unfold pv
  go_enter Try.func26, Try.ntmps26
  go_wp2_with fail
  refine bodyPost_ret (v := .tuple #[.agg #[.int .i64 x.f, .int .i64 x.t, .string (bs x.d)], .int .i64 0]) (by simp [results, Try.results26, go_sem]) rfl ?_
  exact ⟨rfl, (Below.refl _ w).alloc (Nat.le_refl _) _⟩

set_option maxRecDepth 100000 in
set_option maxHeartbeats 1600000 in
theorem at_bad (gN : Nat) (d s : Int) (v : Value) (ps : List Pk) (k : Int) (w : World) (hN : NetI w gN d s v ps) (hk : k < 0 ∨ (ps.length : Int) ≤ k) (hm : ps.length ≤ 1000000) :
    Calls Try.prog 26 #[.pointer (some ⟨gN, 0, none⟩), .int .i64 k] w fun e w' => e = .returned (.tuple #[pv pk0, .int .i64 1]) ∧ Below w.heap.size w w' := by
  have hl := hN.lt
  have hc := hN.c1
  obtain ⟨A, c, rfl⟩ := hN.slice
  clear hN
  unfold pv pk0
  by_cases h0 : k < 0
  · have h1 : decide (k < 0) = true := decide_eq_true h0
    go_enter Try.func26, Try.ntmps26
    go_wp2_with fail
    refine bodyPost_ret (v := .tuple #[.agg #[.int .i64 0, .int .i64 0, .string (bs [])], .int .i64 1]) (by simp [results, Try.results26, go_sem, bs]) rfl ?_
    exact ⟨rfl, (Below.refl _ w).alloc (Nat.le_refl _) _⟩
  · have h1 : decide (k < 0) = false := decide_eq_false h0
    have h2 : decide (k ≥ (ps.length : Int)) = true := decide_eq_true (by omega)
    go_enter Try.func26, Try.ntmps26
    go_wp2_with fail
    refine bodyPost_ret (v := .tuple #[.agg #[.int .i64 0, .int .i64 0, .string (bs [])], .int .i64 1]) (by simp [results, Try.results26, go_sem, bs]) rfl ?_
    exact ⟨rfl, (Below.refl _ w).alloc (Nat.le_refl _) _⟩

theorem blk_setCells {g : Nat} {t : TypeId} : ∀ (vs : List Value) (o : Nat) (w : World) (cur : Array Value), Blk w g t cur → o + vs.length ≤ cur.size →
    ∃ cur', Blk (w.setCells g o vs) g t cur' ∧ cur'.size = cur.size ∧ ∀ i, cur'[i]? = if o ≤ i ∧ i < o + vs.length then vs[i - o]? else cur[i]?
  | [], o, w, cur, h, _ => ⟨cur, h, rfl, fun i => by rw [if_neg (by simp)]⟩
  | v :: r, o, w, cur, h, hl => by
    have h1 := Blk.set_ h o v
    obtain ⟨cur', h2, hs, hc⟩ := blk_setCells r (o + 1) _ _ h1 (by simp at hl ⊢; omega)
    refine ⟨cur', h2, by simpa using hs, fun i => ?_⟩
    rw [hc i]
    simp only [List.length_cons] at hl ⊢
    by_cases e : i = o
    · subst e
      rw [if_neg (by omega), if_pos (by omega), Array.getElem?_setIfInBounds]
      simp; omega
    · rw [Array.getElem?_setIfInBounds, if_neg (fun h : o = i => e h.symm)]
      by_cases hr : o + 1 ≤ i ∧ i < o + 1 + r.length
      · rw [if_pos hr, if_pos (by omega), show i - o = (i - (o + 1)) + 1 from by omega, List.getElem?_cons_succ]
      · rw [if_neg hr, if_neg (by omega)]
theorem gb_setCells {g : Nat} {a : World} : ∀ (vs : List Value) (o : Nat) (w : World), a.grownBy w (some g) → a.grownBy (w.setCells g o vs) (some g)
  | [], _, _, h => h
  | v :: r, o, w, h => gb_setCells r (o + 1) _ (gb_setCell h (p := ⟨g, o, none⟩) (Or.inl rfl) v)


theorem run_clear_rows {P : Program} (w : World) (t e ty : TypeId) (z : Value) (size : Nat) (ht : P.underlying t = some (.slice e)) (hv : ∀ w, (zeroValue e).run P w = .ok z w) (hzs : z.cells.size = size) (h1 : ∀ n, ∀ u ∈ (Builtin.zeroCells z.cells n).toList, u.oneCell' = true) (b o n c : Nat) (hn : 0 < n)
    (hc : ∀ j, j < n * size → (w.cell? ⟨b, o + j, none⟩).isSome = true) (hf : ∀ j, j < n * size → w.frozen? ⟨b, o + j, none⟩ = false) :
    (Builtin.clear_ #[t] ty #[.slice (some ⟨b, o, none⟩) n c]).run P w = .ok (.tuple #[]) (w.setCells b o (Builtin.zeroCells z.cells n).toList) := by
  have hlen : (Builtin.zeroCells z.cells n).toList.length = n * size := by rw [Array.length_toList, size_zeroCells, hzs]
  have hst := run_storeCells_cells (P := P) b o (Builtin.zeroCells z.cells n).toList 0 w (by rw [hlen]; simpa using hc) (by rw [hlen]; simpa using hf) (h1 n)
  simp only [Nat.add_zero] at hst
  obtain ⟨m, rfl⟩ : ∃ m, n = m + 1 := ⟨n - 1, by omega⟩
  simp [Builtin.clear_, run_underlying ht, hv, hst]

def z30 : Value := .agg #[.int .i64 0, .int .i64 0, .string ⟨#[]⟩]
theorem zero30 (w : World) : (zeroValue 30).run Try.prog w = .ok z30 w := by kernel_rfl
theorem one30 : ∀ n, ∀ u ∈ (Builtin.zeroCells z30.cells n).toList, u.oneCell' = true := by
  intro n u hu
  simp only [Builtin.zeroCells, z30, Value.cells, Array.toList_map, List.mem_map] at hu
  obtain ⟨i, _, rfl⟩ := hu
  have : i % 3 = 0 ∨ i % 3 = 1 ∨ i % 3 = 2 := by omega
  rcases this with h | h | h <;> simp [h, Value.oneCell']
end Go.Proofs.Ytnefjmgpbbgifaa
