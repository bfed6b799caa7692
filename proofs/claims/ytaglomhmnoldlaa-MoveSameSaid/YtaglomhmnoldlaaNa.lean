/- The map of nodes: known as the list of its nodes, each under its own stamp, in the map's order. -/
import Derived.Test.YtaglomhmnoldlaaTa
import Derived.Maps.Range
namespace Go.Proofs.Ytaglomhmnoldlaa
open Go.RowKit
open Go.ChangeMaps (setBlock)
attribute [local go_sem] bs_size bs_getElem bs_list bs_append

/-- nodes and their births as entries -/
def ents (l : List (Nd × Nat)) : List (St × Value × Nat) := l.map fun p => (p.1.id, nv p.1, p.2)
def mes (l : List (Nd × Nat)) : List MapEntry := (ents l).map (ent sv)
def ids (xs : List Nd) : List St := xs.map (·.id)
/-- block b is a map of the nodes es -/
def MapN (w : World) (b : Nat) (es : List Nd) : Prop :=
  ∃ (l : List (Nd × Nat)) (clock : Nat), l.map (·.1) = es ∧ w.heap[b]? = some (.map (mes l).toArray clock) ∧ (l.map (·.2)).Nodup ∧ (∀ e ∈ l, e.2 < clock) ∧ (ids es).Nodup
section
variable {w w' : World} {b : Nat} {es : List Nd}
theorem MapN.lt (h : MapN w b es) : b < w.heap.size := by
  obtain ⟨l, c, _, hb, _⟩ := h
  rcases Nat.lt_or_ge b w.heap.size with hlt | hge
  · exact hlt
  · rw [Array.getElem?_eq_none hge] at hb; cases hb
theorem MapN.heap (h : MapN w b es) (hb : w'.heap[b]? = w.heap[b]?) : MapN w' b es := by
  obtain ⟨l, c, h1, h2, rest⟩ := h
  exact ⟨l, c, h1, hb.trans h2, rest⟩
theorem MapN.below (h : MapN w b es) (hb : Below w.heap.size w w') : MapN w' b es := h.heap (hb.block b h.lt)
theorem MapN.grown {row : Option Nat} (h : MapN w b es) (hb : w.grownBy w' row) (hg : some b ≠ row) : MapN w' b es := h.heap (hb.block b h.lt hg)
theorem MapN.nodup (h : MapN w b es) : (ids es).Nodup := by
  obtain ⟨_, _, _, _, _, _, h⟩ := h
  exact h
theorem MapN.new (w : World) : MapN (w.alloc (.map #[] 0)) w.heap.size [] := ⟨[], 0, rfl, heap_alloc_new w _, List.Pairwise.nil, by simp, List.Pairwise.nil⟩
theorem MapN.ne_blk (h : MapN w b es) {g : Nat} {t : TypeId} {cs : Array Value} (hg : Blk w g t cs) : b ≠ g := by
  rintro rfl
  obtain ⟨l, c, _, hb, _⟩ := h
  unfold Blk at hg
  rw [hb] at hg
  cases hg
end
theorem eq27 (x y : St) (w : World) : (Op.equalIn 10000 27 (sv x) (sv y)).run Try.prog w = .ok (decide (x = y)) w := eq_st x y w
theorem mapNd : MapTy Try.prog sv 51 27 38 (nv nd0) where
  map_ := by kernel_rfl
  zero := fun w => by simp [go_sem, nv, nd0, bs]
  eq := fun x y w => eq_st x y w
  check := fun e x w => check_st e x 9998 w
  wide := ⟨_, Try.underlying27, fun a b => rfl⟩
  bits := fun s => by simp [Instr.sameBits, sv]

/-! ### where a stamp stands -/
theorem place_ents (s : St) : ∀ l : List (Nd × Nat), place (ents l) s = ((l.map (·.1)).findIdx? (isId s)).map fun i => (i, ((l.getD i (nd0, 0)).1.id, nv (l.getD i (nd0, 0)).1, (l.getD i (nd0, 0)).2))
  | [] => rfl
  | e :: r => by
    have ih := place_ents s r
    unfold ents at ih ⊢
    simp only [List.map_cons, place, List.findIdx?_cons, isId]
    by_cases c : s = e.1.id
    · subst c
      simp
    · have c' : ¬ e.1.id = s := fun h => c h.symm
      simp only [c, c', if_false, decide_false, Bool.false_eq_true]
      rw [ih]
      cases (r.map (·.1)).findIdx? (isId s) with
      | none => rfl
      | some i => simp
theorem findIdx_find {s : St} {xs : List Nd} : (∀ i, xs.findIdx? (isId s) = some i → ∃ h : i < xs.length, xs.find? (isId s) = some xs[i] ∧ xs[i].id = s) ∧ (xs.findIdx? (isId s) = none → xs.find? (isId s) = none) := by
  refine ⟨fun i h => ?_, fun h => ?_⟩
  · obtain ⟨hi, h2, h3⟩ := List.findIdx?_eq_some_iff_getElem.1 h
    refine ⟨hi, ?_, by simpa [isId] using h2⟩
    rw [List.find?_eq_some_iff_getElem]
    exact ⟨h2, i, hi, rfl, fun j hj => by have := h3 j hj; simpa using this⟩
  · rw [List.findIdx?_eq_none_iff] at h
    exact List.find?_eq_none.2 fun x hx => by rw [h x hx]; simp
/-- n, is := m[k] -/
theorem MapN.look2 {w : World} {b : Nat} {es : List Nd} (h : MapN w b es) (s : St) :
    (Instr.lookup 51 (.map (some b)) (sv s) true).run Try.prog w = .ok (.tuple #[nv (findN s es), .bool (hasN s es)]) w := by
  obtain ⟨l, c, rfl, hb, _⟩ := h
  have hfi := finding mapNd s w (ents l)
  simp only [Instr.lookup, Sem.run_bind, run_underlying mapNd.map_, Go.MapKept.run_getObj_map hb, Sem.run_pure, Result.andThen_ok, mapNd.check]
  unfold mes
  rw [hfi, place_ents]
  unfold findN hasN
  have hf := findIdx_find (s := s) (xs := l.map (·.1))
  cases hp : (l.map (·.1)).findIdx? (isId s) with
  | none =>
    rw [hf.2 hp]
    simp [mapNd.zero]
  | some i =>
    obtain ⟨hi, h1, _⟩ := hf.1 i hp
    rw [h1]
    have hi' : i < l.length := by simpa using hi
    simp [List.getD_eq_getElem?_getD, hi']
theorem MapN.len {w : World} {b : Nat} {es : List Nd} (h : MapN w b es) (ty : TypeId) : (Builtin.len_ #[51] ty #[.map (some b)]).run Try.prog w = .ok (.int .i64 es.length) w := by
  obtain ⟨l, c, rfl, hb, _⟩ := h
  unfold Builtin.len_
  simp only [Sem.run_bind, List.getElem?_toArray, List.getElem?_cons_zero, run_underlying mapNd.map_, Result.andThen_ok, MapKept.run_getObj_map hb, Sem.run_pure]
  simp [mes, ents, goInt]

/-! ### writing -/
/-- the nodes with n under its stamp -/
def putN (es : List Nd) (n : Nd) : List Nd := match es.findIdx? (isId n.id) with
  | some i => es.set i n
  | none => es ++ [n]
/-- the nodes without a stamp -/
def delN (es : List Nd) (s : St) : List Nd := match es.findIdx? (isId s) with
  | some i => es.eraseIdx i
  | none => es
theorem mes_set (l : List (Nd × Nat)) (i : Nat) (n : Nd) (hi : i < l.length) : ((mes l).toArray.modify i fun e => { e with key := sv n.id, val := nv n }) = (mes (l.set i (n, l[i].2))).toArray := by
  apply Array.ext_getElem?
  intro j
  simp only [mes, ents, Array.getElem?_modify, List.getElem?_toArray, List.getElem?_map, List.getElem?_set]
  by_cases cj : i = j
  · subst cj; simp [hi, ent]
  · simp [cj]
theorem ids_set {xs : List Nd} {i : Nat} {n : Nd} (hi : i < xs.length) (h : xs[i].id = n.id) : ids (xs.set i n) = ids xs := by
  apply List.ext_getElem?
  intro j
  simp only [ids, List.getElem?_map, List.getElem?_set]
  by_cases cj : i = j
  · subst cj; simp [hi, h]
  · simp [cj]
theorem map_erase {α β : Type} (f : α → β) : ∀ (l : List α) (i : Nat), (l.eraseIdx i).map f = (l.map f).eraseIdx i
  | [], _ => rfl
  | a :: r, 0 => rfl
  | a :: r, i + 1 => by simp [List.eraseIdx_cons_succ, map_erase f r i]
theorem MapN.put {w : World} {b : Nat} {es : List Nd} (h : MapN w b es) (n : Nd) :
    ∃ w1, (Instr.mapUpdate 51 (.map (some b)) (sv n.id) (nv n)).run Try.prog w = .ok () w1 ∧ MapN w1 b (putN es n) ∧ w.grownBy w1 (some b) ∧ w1.heap.size = w.heap.size := by
  obtain ⟨l, c, rfl, hb, hnd, hlt, hid⟩ := h
  have hfi := finding mapNd n.id w (ents l)
  rw [place_ents] at hfi
  have hf := findIdx_find (s := n.id) (xs := l.map (·.1))
  cases hp : (l.map (·.1)).findIdx? (isId n.id) with
  | some i =>
    obtain ⟨hi, h1, hidn⟩ := hf.1 i hp
    have hi' : i < l.length := by simpa using hi
    obtain ⟨w1, hr, hb1, hg1, hs1⟩ := set_obj (P := Try.prog) (.map (mes (l.set i (n, l[i].2))).toArray c) hb
    have hput : putN (l.map (·.1)) n = (l.set i (n, l[i].2)).map (·.1) := by unfold putN; rw [hp]; simp [List.map_set]
    refine ⟨w1, ?_, ⟨l.set i (n, l[i].2), c, hput.symm, hb1, ?_, fun e he => ?_, ?_⟩, hg1, hs1⟩
    · rw [hp] at hfi
      simp only [Instr.mapUpdate, Sem.run_bind, run_underlying mapNd.map_, Go.MapKept.run_getObj_map hb, Result.andThen_ok, mapNd.check]
      rw [show (mes l) = (ents l).map (ent sv) from rfl, hfi]
      have h2 : (((ents l).map (ent sv)).toArray[i]?).map (·.key) = some (sv n.id) := by
        have : l[i].1.id = n.id := by simpa using hidn
        simp [ents, ent, hi', this]
      have hm := mes_set l i n hi'
      unfold mes at hm
      simp only [Option.map_some, Result.andThen_ok, h2, Option.getD_some, Instr.keyThatStays, mapNd.bits, if_true, Sem.run_bind, Sem.run_pure, hm]
      exact hr
    · have : (l.set i (n, l[i].2)).map (·.2) = l.map (·.2) := by
        apply List.ext_getElem?
        intro j
        simp only [List.getElem?_map, List.getElem?_set]
        by_cases cj : i = j
        · subst cj; simp [hi']
        · simp [cj]
      rw [this]; exact hnd
    · rcases List.mem_or_eq_of_mem_set he with he | rfl
      · exact hlt e he
      · exact hlt l[i] (List.getElem_mem hi')
    · have h3 : putN (l.map (·.1)) n = (l.map (·.1)).set i n := by unfold putN; rw [hp]
      rw [h3, ids_set hi hidn]
      exact hid
  | none =>
    have hno := hf.2 hp
    obtain ⟨w1, hr, hb1, hg1, hs1⟩ := set_obj (P := Try.prog) (.map (mes (l ++ [(n, c)])).toArray (c + 1)) hb
    have hput : putN (l.map (·.1)) n = (l ++ [(n, c)]).map (·.1) := by unfold putN; rw [hp]; simp
    refine ⟨w1, ?_, ⟨l ++ [(n, c)], c + 1, hput.symm, hb1, ?_, fun e he => ?_, ?_⟩, hg1, hs1⟩
    · rw [hp] at hfi
      simp only [Instr.mapUpdate, Sem.run_bind, run_underlying mapNd.map_, Go.MapKept.run_getObj_map hb, Result.andThen_ok, mapNd.check]
      rw [show (mes l) = (ents l).map (ent sv) from rfl, hfi]
      have hm : (mes l).toArray.push { key := sv n.id, val := nv n, born := c } = (mes (l ++ [(n, c)])).toArray := by simp [mes, ents, ent]
      unfold mes at hm
      simp only [Option.map_none, Result.andThen_ok, hm]
      exact hr
    · rw [List.map_append]
      refine List.nodup_append.2 ⟨hnd, by simp, ?_⟩
      intro a ha b hb'
      obtain ⟨x, hx, rfl⟩ := List.mem_map.1 ha
      simp at hb'
      have := hlt x hx
      omega
    · rcases List.mem_append.1 he with h | h
      · have := hlt e h; omega
      · simp at h; rw [h]; exact Nat.lt_succ_self _
    · have h3 : putN (l.map (·.1)) n = l.map (·.1) ++ [n] := by unfold putN; rw [hp]
      rw [h3]
      unfold ids at hid ⊢
      rw [List.map_append]
      refine List.nodup_append.2 ⟨hid, by simp, ?_⟩
      intro a ha b hb'
      obtain ⟨x, hx, rfl⟩ := List.mem_map.1 ha
      simp at hb'
      have := List.find?_eq_none.1 hno x hx
      simp [isId] at this
      rw [hb']; exact this
theorem MapN.del {w : World} {b : Nat} {es : List Nd} (h : MapN w b es) (s : St) (ty : TypeId) :
    ∃ w1, (Builtin.delete_ #[51, 27] ty #[.map (some b), sv s]).run Try.prog w = .ok (.tuple #[]) w1 ∧ MapN w1 b (delN es s) ∧ w.grownBy w1 (some b) ∧ w1.heap.size = w.heap.size := by
  obtain ⟨l, c, rfl, hb, hnd, hlt, hid⟩ := h
  have hfi := finding mapNd s w (ents l)
  rw [place_ents] at hfi
  have hf := findIdx_find (s := s) (xs := l.map (·.1))
  cases hp : (l.map (·.1)).findIdx? (isId s) with
  | some i =>
    obtain ⟨hi, h1, hidn⟩ := hf.1 i hp
    have hi' : i < l.length := by simpa using hi
    obtain ⟨w1, hr, hb1, hg1, hs1⟩ := set_obj (P := Try.prog) (.map (mes (l.eraseIdx i)).toArray c) hb
    have hdel : delN (l.map (·.1)) s = (l.eraseIdx i).map (·.1) := by unfold delN; rw [hp]; simp [map_erase]
    refine ⟨w1, ?_, ⟨l.eraseIdx i, c, hdel.symm, hb1, ?_, fun e he => hlt e (List.mem_of_mem_eraseIdx he), ?_⟩, hg1, hs1⟩
    · rw [hp] at hfi
      unfold Builtin.delete_
      simp only [Sem.run_bind, List.getElem?_toArray, List.getElem?_cons_zero, List.getElem?_cons_succ, run_underlying mapNd.map_, Result.andThen_ok, MapKept.run_getObj_map hb, mapNd.check]
      rw [show (mes l) = (ents l).map (ent sv) from rfl, hfi]
      have hm : (mes l).toArray.eraseIdxIfInBounds i = (mes (l.eraseIdx i)).toArray := by
        apply Array.toList_inj.1
        simp [mes, ents, Array.eraseIdxIfInBounds, hi', map_erase]
      unfold mes at hm
      simp only [Option.map_some, Result.andThen_ok, hm]
      rw [show (ents (l.eraseIdx i)).map (ent sv) = mes (l.eraseIdx i) from rfl, Sem.run_bind, hr]
      rfl
    · exact (List.Sublist.map _ (List.eraseIdx_sublist l i)).nodup hnd
    · rw [hdel]
      exact (List.Sublist.map _ (List.Sublist.map _ (List.eraseIdx_sublist l i))).nodup hid
  | none =>
    obtain ⟨w1, hr, hb1, hg1, hs1⟩ := set_obj (P := Try.prog) (.map (mes l).toArray c) hb
    have hdel : delN (l.map (·.1)) s = l.map (·.1) := by unfold delN; rw [hp]
    refine ⟨w1, ?_, ⟨l, c, hdel.symm, hb1, hnd, hlt, by rw [hdel]; exact hid⟩, hg1, hs1⟩
    rw [hp] at hfi
    unfold Builtin.delete_
    simp only [Sem.run_bind, List.getElem?_toArray, List.getElem?_cons_zero, List.getElem?_cons_succ, run_underlying mapNd.map_, Result.andThen_ok, MapKept.run_getObj_map hb, mapNd.check]
    rw [show (mes l) = (ents l).map (ent sv) from rfl, hfi]
    simp only [Option.map_none, Result.andThen_ok]
    rw [show (ents l).map (ent sv) = mes l from rfl, Sem.run_bind, hr]
    rfl
/-- m = map[..]..{} -/
theorem make51 (w : World) : (Instr.makeMap 51 none).run Try.prog w = .ok (.map (some w.heap.size)) (w.alloc (.map #[] 0)) := by simp [Instr.makeMap, go_sem]
end Go.Proofs.Ytaglomhmnoldlaa
