/- Collect of a store with one piece that nothing keeps. -/
import Derived.Test.YtnfbakldpjmbnaaMk
import Derived.Maps.RangeWalk
namespace Go.Proofs.Ytnfbakldpjmbnaa
open Go.RowKit Fm
attribute [local go_sem] bs_size bs_getElem bs_list bs_append
open Go.ChangeMaps (setBlock)

theorem make49 (w : World) : (Instr.makeMap 49 none).run Try.prog w = .ok (.map (some w.heap.size)) (w.alloc (.map #[] 0)) := by simp [go_sem, Instr.makeMap]
/-- delete of the one key -/
theorem del_one {w : World} {b : Nat} {K x : Bytes} (h : Fs w b [(K, x)]) (ty : TypeId) : ∃ w', (Builtin.delete_ #[40, 9] ty #[.map (some b), .string (bs K)]).run Try.prog w = .ok (.tuple #[]) w' ∧ w'.heap[b]? = some (.map #[] 1) ∧ w.grownBy w' (some b) := by
  obtain ⟨w', hr, h1, h2, _⟩ := set_obj (P := Try.prog) (.map #[] 1) h
  refine ⟨w', ?_, h1, h2⟩
  have hf := find_key (P := Try.prog) (kt := 9) Try.underlying9 K w [(K, x)]
  have hp : place [(K, x)] K = some (0, x) := by simp [place]
  rw [hp] at hf
  have hc := check_key (P := Try.prog) (kt := 9) Try.underlying9 K (fents 0 [(K, x)]).toArray.isEmpty w
  have herase : (fents 0 [(K, x)]).toArray.eraseIdxIfInBounds 0 = #[] := by simp [fents, Array.eraseIdxIfInBounds]
  unfold Builtin.delete_
  simp only [Sem.run_bind, List.getElem?_toArray, List.getElem?_cons_zero, List.getElem?_cons_succ, run_underlying Try.underlying40, Result.andThen_ok, MapKept.run_getObj_map h, hc, hf, Option.map_some, herase]
  simp only [List.length_cons, List.length_nil, Nat.zero_add] 
  rw [hr]
  rfl
/-- one step over one entry -/
theorem next_one {w : World} {b r : Nat} {K x : Bytes} (hb : Fs w b [(K, x)]) (hr : w.heap[r]? = some (.mapIter (some b) 1 #[] 1)) (ty : TypeId) :
    ∃ w', (Instr.next (.pointer (some ⟨r, 0, none⟩)) false ty).run Try.prog w = .ok (.tuple #[.bool true, .string (bs K), .string (bs x)]) w' ∧ Fs w' b [(K, x)] ∧ w'.heap[r]? = some (.mapIter (some b) 1 #[0] 1) ∧ w.grownBy w' (some r) ∧
      (Instr.entry (.pointer (some ⟨r, 0, none⟩))).run Try.prog w' = .ok (.tuple #[.string (bs K), .string (bs x)]) w' := by
  have hbr : b ≠ r := by rintro rfl; unfold Fs fobj at hb; rw [hb] at hr; cases hr
  rcases run_next_at (P := Try.prog) w ty r b 1 1 #[] (fents 0 [(K, x)]).toArray 1 hr hb (by simp [fents, fent]) (Nat.le_refl _) with ⟨h0, _⟩ | ⟨e, he, w1, hal, hrun⟩
  · exfalso
    have : (leftOf (fents 0 [(K, x)]).toArray #[]).size = 1 := by rw [← Array.length_toList, left_list]; simp [fents]
    omega
  · have hee : e = fent 0 (K, x) := by
      rw [left_list] at he
      have := (List.mem_filter.1 he).1
      simpa [fents] using this
    subst hee
    have hr1 : w1.heap[r]? = some (.mapIter (some b) 1 #[] 1) := by rcases hal with rfl | rfl <;> exact hr
    have hset := MapKept.heap_set (o' := .mapIter (some b) 1 (#[].push (fent 0 (K, x)).born) 1) hr1
    have hb' : Fs (setBlock w1 r (.mapIter (some b) 1 (#[].push (fent 0 (K, x)).born) 1)) b [(K, x)] := (hset.2 b hbr).trans (by rcases hal with rfl | rfl <;> exact hb)
    have hg1 : w.grownBy w1 (some r) := by rcases hal with rfl | rfl; exact gb_refl _ _; exact gb_drew (gb_refl _ _)
    exact ⟨_, hrun, hb', hset.1, gb_trans hg1 ⟨rfl, rfl, rfl, by simp [setBlock], fun i _ hne => hset.2 i (fun e => hne (by rw [e]))⟩,
      run_entry_at (P := Try.prog) _ r b 1 #[] (fents 0 [(K, x)]).toArray 1 (fent 0 (K, x)) hset.1 hb' (by simp [fents]) (by simp [fents])⟩
theorem next_none {w : World} {b r s c c2 : Nat} {seen : Array Nat} (hb : w.heap[b]? = some (.map #[] c)) (hr : w.heap[r]? = some (.mapIter (some b) s seen c2)) (hs : s ≤ c2) (ty : TypeId) :
    (Instr.next (.pointer (some ⟨r, 0, none⟩)) false ty).run Try.prog w = .ok (.tuple #[.bool false]) w := by
  rcases run_next_at (P := Try.prog) w ty r b s c2 seen #[] c hr hb (by simp) hs with ⟨_, h⟩ | ⟨e, he, _⟩
  · exact h
  · exfalso; simp [leftOf] at he
end Go.Proofs.Ytnfbakldpjmbnaa
