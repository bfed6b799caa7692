/- Going over the map of nodes: each node once, in whatever order. -/
import Derived.Test.YtaglomhmnoldlaaNa
namespace Go.Proofs.Ytaglomhmnoldlaa
open Go.RowKit
open Go.ChangeMaps (setBlock)

/-- under way over block b by block r: the nodes of rest are still to come -/
def RngN (w : World) (b r : Nat) (es rest : List Nd) : Prop :=
  ∃ (l : List (Nd × Nat)) (clock : Nat) (seen : Array Nat) (c0 : Nat), l.map (·.1) = es ∧ w.heap[b]? = some (.map (mes l).toArray clock) ∧ (l.map (·.2)).Nodup ∧ (∀ e ∈ l, e.2 < clock) ∧ (ids es).Nodup ∧
    w.heap[r]? = some (.mapIter (some b) clock seen c0) ∧ clock ≤ c0 ∧ (l.filter fun e => !seen.contains e.2).map (·.1) = rest
section
variable {w w' : World} {b r : Nat} {es rest : List Nd}
theorem RngN.map (h : RngN w b r es rest) : MapN w b es := by
  obtain ⟨l, c, seen, c0, h1, h2, h3, h4, h5, _⟩ := h
  exact ⟨l, c, h1, h2, h3, h4, h5⟩
theorem lt_heap {w : World} {b : Nat} {o : Obj} (hb : w.heap[b]? = some o) : b < w.heap.size := by
  rcases Nat.lt_or_ge b w.heap.size with hlt | hge
  · exact hlt
  · rw [Array.getElem?_eq_none hge] at hb; cases hb
theorem RngN.lt (h : RngN w b r es rest) : r < w.heap.size := by
  obtain ⟨l, c, seen, c0, _, _, _, _, _, hb, _⟩ := h
  exact lt_heap hb
theorem RngN.heap (h : RngN w b r es rest) (hb : w'.heap[b]? = w.heap[b]?) (hr : w'.heap[r]? = w.heap[r]?) : RngN w' b r es rest := by
  obtain ⟨l, c, seen, c0, h1, h2, h3, h4, h5, h6, rest⟩ := h
  exact ⟨l, c, seen, c0, h1, hb.trans h2, h3, h4, h5, hr.trans h6, rest⟩
theorem RngN.grown {row : Option Nat} (h : RngN w b r es rest) (hb : w.grownBy w' row) (h1 : some b ≠ row) (h2 : some r ≠ row) : RngN w' b r es rest := h.heap (hb.block b h.map.lt h1) (hb.block r h.lt h2)
theorem RngN.below (h : RngN w b r es rest) (hb : Below w.heap.size w w') : RngN w' b r es rest := h.heap (hb.block b h.map.lt) (hb.block r h.lt)
theorem RngN.alloc (h : RngN w b r es rest) (o : Obj) : RngN (w.alloc o) b r es rest := h.below ((Below.refl _ w).alloc (Nat.le_refl _) o)
theorem left_mes (l : List (Nd × Nat)) (seen : Array Nat) : (leftOf (mes l).toArray seen).toList = mes (l.filter fun e => !seen.contains e.2) := by
  unfold leftOf mes ents
  simp only [List.map_map, List.filter_toArray, List.filter_map]
  rfl
theorem mem_mes {l : List (Nd × Nat)} {e : MapEntry} (h : e ∈ mes l) : ∃ p ∈ l, e = ent sv (p.1.id, nv p.1, p.2) := by
  unfold mes ents at h
  rw [List.map_map] at h
  obtain ⟨p, hp, rfl⟩ := List.mem_map.1 h
  exact ⟨p, hp, rfl⟩
theorem born_mes (l : List (Nd × Nat)) : (mes l).map (·.born) = l.map (·.2) := by
  unfold mes ents
  simp [ent, Function.comp_def]
theorem left_less {seen : Array Nat} {p : Nd × Nat} : ∀ {l : List (Nd × Nat)}, (l.map (·.2)).Nodup → p ∈ l → seen.contains p.2 = false →
    (l.filter fun x => !seen.contains x.2).Perm (p :: (l.filter fun x => !(seen.push p.2).contains x.2))
  | [], _, h, _ => by cases h
  | a :: r, hn, h, hs => by
    rw [List.map_cons, List.nodup_cons] at hn
    obtain ⟨hn1, hn2⟩ := hn
    by_cases ha : a = p
    · subst ha
      have hr : r.filter (fun x => !(seen.push a.2).contains x.2) = r.filter (fun x => !seen.contains x.2) := by
        apply List.filter_congr
        intro x hx
        have hne : x.2 ≠ a.2 := fun e' => hn1 (e' ▸ List.mem_map.2 ⟨x, hx, rfl⟩)
        simp [hne]
      have h1 : (!(seen.push a.2).contains a.2) = false := by simp
      have h2 : (!seen.contains a.2) = true := by rw [hs]; rfl
      rw [List.filter_cons, List.filter_cons, h1, h2, hr]
      simp
    · have he : p ∈ r := by rcases List.mem_cons.1 h with h | h; exact absurd h.symm ha; exact h
      have ih := left_less hn2 he hs
      have hne : a.2 ≠ p.2 := fun e' => hn1 (e' ▸ List.mem_map.2 ⟨p, he, rfl⟩)
      have h1 : (!(seen.push p.2).contains a.2) = (!seen.contains a.2) := by simp [hne]
      rw [List.filter_cons, List.filter_cons, h1]
      cases (!seen.contains a.2) with
      | false => simpa using ih
      | true =>
        simp only [if_true]
        exact (ih.cons a).trans (List.Perm.swap _ _ _)
theorem RngN.left (h : RngN w b r es rest) : w.rangeLeft b r = rest.length := by
  obtain ⟨l, c, seen, c0, _, hb, _, _, _, hr, _, hc⟩ := h
  unfold World.rangeLeft
  rw [hb, hr]
  simp only
  rw [← hc, List.length_map, ← Array.length_toList, left_mes]
  simp [mes, ents]
theorem RngN.next {P : Program} (h : RngN w b r es rest) (ty : TypeId) :
    (rest = [] ∧ (Instr.next (.pointer (some ⟨r, 0, none⟩)) false ty).run P w = .ok (.tuple #[.bool false]) w) ∨
    ∃ n rest' w', rest.Perm (n :: rest') ∧ (Instr.next (.pointer (some ⟨r, 0, none⟩)) false ty).run P w = .ok (.tuple #[.bool true, sv n.id, nv n]) w' ∧ RngN w' b r es rest' ∧ w.grownBy w' (some r) ∧ w'.heap.size = w.heap.size ∧
      (Instr.entry (.pointer (some ⟨r, 0, none⟩))).run P w' = .ok (.tuple #[sv n.id, nv n]) w' := by
  obtain ⟨l, c, seen, c0, hl, hb, hnd, hlt, hid, hr, hle, hc⟩ := h
  have hbr : b ≠ r := by rintro rfl; rw [hb] at hr; cases hr
  have hold : ∀ x ∈ (mes l).toArray.toList, x.born < c := fun x hx => by
    obtain ⟨p, hp, rfl⟩ := mem_mes (by simpa using hx)
    exact hlt p hp
  rcases run_next_at (P := P) w ty r b c c0 seen (mes l).toArray c hr hb hold hle with ⟨h0, hrun⟩ | ⟨e, he, w1, hal, hrun⟩
  · have hnil : l.filter (fun x => !seen.contains x.2) = [] := by
      have h1 := left_mes l seen
      rw [List.eq_nil_of_length_eq_zero (show (leftOf (mes l).toArray seen).toList.length = 0 by rw [Array.length_toList]; exact h0)] at h1
      have := congrArg List.length h1
      simp only [mes, ents, List.length_nil, List.length_map] at this
      exact List.eq_nil_of_length_eq_zero this.symm
    rw [hnil] at hc
    exact .inl ⟨hc.symm, hrun⟩
  · rw [left_mes] at he
    obtain ⟨p, hp, rfl⟩ := mem_mes he
    obtain ⟨hpl, hps⟩ := List.mem_filter.1 hp
    have hps' : seen.contains p.2 = false := by simpa using hps
    have hper := left_less hnd hpl hps'
    have hr1 : w1.heap[r]? = some (.mapIter (some b) c seen c0) := by rcases hal with rfl | rfl <;> exact hr
    have hset := MapKept.heap_set (o' := .mapIter (some b) c (seen.push p.2) c) hr1
    have hb' : (setBlock w1 r (.mapIter (some b) c (seen.push p.2) c)).heap[b]? = some (.map (mes l).toArray c) := (hset.2 b (fun e1 => hbr e1)).trans (by rcases hal with rfl | rfl <;> exact hb)
    refine .inr ⟨p.1, (l.filter fun x => !(seen.push p.2).contains x.2).map (·.1), _, ?_, hrun, ⟨l, c, seen.push p.2, c, hl, hb', hnd, hlt, hid, hset.1, Nat.le_refl _, rfl⟩, ?_, ?_, ?_⟩
    · rw [← hc]
      exact hper.map _
    · have hg1 : w.grownBy w1 (some r) := by rcases hal with rfl | rfl; exact gb_refl _ _; exact gb_drew (gb_refl _ _)
      exact gb_trans hg1 ⟨rfl, rfl, rfl, by simp [setBlock], fun i _ hne => hset.2 i (fun e => hne (by rw [e]))⟩
    · have : w1.heap.size = w.heap.size := by rcases hal with rfl | rfl <;> rfl
      rw [← this]
      simp [setBlock]
    · exact run_entry_at (P := P) _ r b c seen (mes l).toArray c _ hset.1 hb' (by
        have h2 : ent sv (p.1.id, nv p.1, p.2) ∈ mes l := by unfold mes ents; exact List.mem_map.2 ⟨_, List.mem_map.2 ⟨p, hpl, rfl⟩, rfl⟩
        simpa using h2) (by
        have := born_mes l
        simpa [this] using hnd)
theorem MapN.range (h : MapN w b es) :
    ∃ w', (Instr.range 51 (.map (some b))).run Try.prog w = .ok (.pointer (some ⟨w.heap.size, 0, none⟩)) w' ∧ RngN w' b w.heap.size es es ∧ Below w.heap.size w w' ∧ w'.heap.size = w.heap.size + 1 := by
  have hlt := h.lt
  obtain ⟨l, c, hl, hb, hnd, hlt', hid⟩ := h
  refine ⟨_, run_range_map w 51 27 38 b _ _ mapNd.map_ hb, ⟨l, c, #[], c, hl, (Below.heap_alloc w _ b hlt).trans hb, hnd, hlt', hid, heap_alloc_new w _, Nat.le_refl _, ?_⟩, (Below.refl _ w).alloc (Nat.le_refl _) _, by simp⟩
  rw [← hl]
  congr 1
  simp
end
end Go.Proofs.Ytaglomhmnoldlaa
