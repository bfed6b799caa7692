/- 'copy' at elements of many cells; laws for it; an insertion into a slice of one's own, cell by cell. No program in sight. -/
import Derived.Test.YtaglomhmnoldlaaOwnC
import Derived.Lib.AppendZerosOnto
import Derived.Lib.Overlaps
import Derived.Laws.IdiomCopy
import Derived.Laws.Externs
namespace Go.Proofs.Ytaglomhmnoldlaa
open Go.RowKit
section
variable {P : Program}
theorem run_copy_wide (w : World) (dT sT ty elem : TypeId) (size : Nat) (b o dLen dCap : Nat) (a : Addr) (sLen sCap : Nat) (cs : List Value)
    (hu : P.underlying dT = some (.slice elem)) (hs : (P.info? elem).map (·.size) = some size) (hn : cs.length = Nat.min sLen dLen * size)
    (hsrc : ∀ j v, cs[j]? = some v → w.cell? (a.add j) = some v) (hc : ∀ j, j < cs.length → (w.cell? ⟨b, o + j, none⟩).isSome = true) (hf : ∀ j, j < cs.length → w.frozen? ⟨b, o + j, none⟩ = false) (h1 : ∀ v ∈ cs, v.oneCell' = true) :
    (Builtin.copy_ #[dT, sT] ty #[.slice (some ⟨b, o, none⟩) dLen dCap, .slice (some a) sLen sCap]).run P w = .ok (goInt (Nat.min sLen dLen : Nat)) (w.setCells b o cs) := by
  have hl := run_loadCells_list (P := P) w a cs hsrc
  have hst := run_storeCells_cells (P := P) b o cs 0 w (by simpa using hc) (by simpa using hf) h1
  cases hq : P.info? elem with
  | none => simp [hq] at hs
  | some i =>
    have hi : i.size = size := by simpa [hq] using hs
    simp only [Nat.add_zero] at hst
    rw [hn] at hl
    simp [Builtin.copy_, run_underlying hu, Builtin.lenOf, Builtin.firstCells, sizeOf, typeInfo, hq, hi, hl, hst]

theorem wp_copy_runC (w : World) {o : Oper} {a : Act} {K : Act → World → Prop} {Q : Exit → Act → World → Prop} (d s : Operand) (t t' : TypeId)
    (ho : o.op = .call { callee := .builtin .copy, args := #[d, s], argTypes := #[t, t'] }) (v u : Value) (hd : a.eval d = v) (hs : a.eval s = u) {v' : Value} {w' : World}
    (hr : (Builtin.copy_ #[t, t'] o.type #[v, u]).run P w = .ok v' w') (h : K (a.put o.dst v') w') : o.wp P a w K Q := by
  unfold Oper.wp execOp
  simp only [ho, resolve, invoke, builtin, Sem.run_bind, Sem.run_pure, Result.andThen_ok, List.map_toArray, List.map_cons, List.map_nil, hd, hs, hr]
  exact h
theorem wpList_copy_runC (w : World) {ops : Array Oper} {rest : List Oper} {o : Oper} {a : Act} {Q : Exit → Act → World → Prop} (hgd : o.guard = none) (d s : Operand) (t t' : TypeId)
    (ho : o.op = .call { callee := .builtin .copy, args := #[d, s], argTypes := #[t, t'] }) (v u : Value) (hd : a.eval d = v) (hs : a.eval s = u) {v' : Value} {w' : World}
    (hr : (Builtin.copy_ #[t, t'] o.type #[v, u]).run P w = .ok v' w') (h : wpList P ops Q rest (a.put o.dst v') w') : wpList P ops Q (o :: rest) a w :=
  wpList_plain hgd fun _ hK => wp_copy_runC w d s t t' ho v u hd hs hr (hK _ _ h)
theorem step_copy_runC {ops : Array Oper} {o : Oper} {a : Act} {w : World} {K : Act → World → Prop} {Q : Exit → Act → World → Prop} {E : Prop}
    (hg : o.guard = none) (d x : Operand) (dT sT : TypeId) (hop : o.op = Op.call { callee := Callee.builtin Builtin.copy, args := #[d, x], argTypes := #[dT, sT] })
    (v u : Value) (hd : a.eval d = v) (hx : a.eval x = u) {v' : Value} {w' : World} (hr : (Builtin.copy_ #[dT, sT] o.type #[v, u]).run P w = .ok v' w') (hK : K (a.put o.dst v') w') :
    if Region.wanted o (yielded ops a.tmps) = true then Oper.wp P o a w K Q else E := by
  have hw : Region.wanted o (yielded ops a.tmps) = true := by simp [Region.wanted, hg]
  rw [if_pos hw]
  unfold Oper.wp
  simp [execOp, hop, resolve, invoke, builtin, hd, hx, hr, Result.andThen]
  exact hK
end
section
variable {w : World} {B size g cap n k : Nat} {cs vs : List Value}
theorem shape_of_cell {w : World} {g : Nat} {u : Value} (h : w.cell? ⟨g, 0, none⟩ = some u) : ∃ t m, w.shape? g = some (t, m) ∧ m ≠ 0 := by
  unfold World.cell? at h
  cases hq : w.heap[g]? with
  | none => simp [hq] at h
  | some o =>
    cases o with
    | cells c t mk =>
      simp [hq] at h
      refine ⟨t, c.size, by simp [World.shape?, hq], fun h0 => ?_⟩
      rw [Array.getElem?_eq_none (by omega)] at h
      cases h
    | _ => simp [hq] at h
theorem Blk.shape {t : TypeId} {c : Array Value} (h : Blk w g t c) : w.shape? g = some (t, c.size) := by
  unfold Blk at h
  simp [World.shape?, h]
theorem heap_setCells_congr (b : Nat) : ∀ (vs : List Value) (o : Nat) (w w' : World), w.heap = w'.heap → (w.setCells b o vs).heap = (w'.setCells b o vs).heap
  | [], _, _, _, h => h
  | v :: r, o, w, w', h => by
    rw [World.setCells, World.setCells]
    exact heap_setCells_congr b r (o + 1) _ _ (by simp [World.setCell, h])
theorem OwnC.heap_eq {v : Value} {w w' : World} (h : OwnC w B size v n cs) (e : w'.heap = w.heap) : OwnC w' B size v n cs := by
  have hc : ∀ a, w'.cell? a = w.cell? a := fun a => by unfold World.cell?; rw [e]
  have hz : ∀ a, w'.frozen? a = w.frozen? a := fun a => by unfold World.frozen?; rw [e]
  refine ⟨h.1, ?_⟩
  rcases h.2 with hn | ⟨g, cap, rfl, hb, hlt, hnc, hcm, hs, hf, hx⟩
  · exact .inl hn
  · exact .inr ⟨g, cap, rfl, hb, by rw [e]; exact hlt, hnc, hcm, fun j hj => by rw [hc]; exact hs j hj, fun j hj => by rw [hz]; exact hf j hj, fun j u hu => by rw [hc]; exact hx j u hu⟩
theorem os_setCellsC (b : Nat) (vs : List Value) (o : Nat) (w : World) : (w.setCells b o vs).os = w.os := World.os_setCells _ _ _ _
theorem out_setCellsC (b : Nat) (vs : List Value) (o : Nat) (w : World) : (w.setCells b o vs).output = w.output := World.output_setCells _ _ _ _
/-- the cells behind an insertion -/
theorem insert_cells {cs vs : List Value} (hcl : cs.length = n * size) (hvl : vs.length = size) (hk : k ≤ n) (f : Nat → Option Value)
    (h1 : ∀ j u, j < k * size → cs[j]? = some u → f j = some u) (h2 : ∀ j u, vs[j]? = some u → f (k * size + j) = some u) (h3 : ∀ j u, (cs.drop (k * size))[j]? = some u → f ((k + 1) * size + j) = some u) :
    ∀ j u, (cs.take (k * size) ++ (vs ++ cs.drop (k * size)))[j]? = some u → f j = some u := by
  intro j u hu
  have hkl : k * size ≤ n * size := Nat.mul_le_mul_right _ hk
  have htl : (cs.take (k * size)).length = k * size := by rw [List.length_take, hcl]; omega
  have hk1 : (k + 1) * size = k * size + size := Nat.succ_mul _ _
  rcases Nat.lt_or_ge j (k * size) with hj | hj
  · rw [List.getElem?_append_left (by omega), List.getElem?_take_of_lt hj] at hu
    exact h1 j u hj hu
  · rw [List.getElem?_append_right (by omega), htl] at hu
    rcases Nat.lt_or_ge (j - k * size) size with hj2 | hj2
    · rw [List.getElem?_append_left (by omega)] at hu
      have := h2 _ u hu
      rwa [show k * size + (j - k * size) = j by omega] at this
    · rw [List.getElem?_append_right (by omega), hvl] at hu
      have := h3 _ u hu
      rwa [show (k + 1) * size + (j - k * size - size) = j by omega] at this
theorem insert_len {cs vs : List Value} (hcl : cs.length = n * size) (hvl : vs.length = size) (hk : k ≤ n) : (cs.take (k * size) ++ (vs ++ cs.drop (k * size))).length = (n + 1) * size := by
  have hkl : k * size ≤ n * size := Nat.mul_le_mul_right _ hk
  have hk1 : (n + 1) * size = n * size + size := Nat.succ_mul _ _
  simp only [List.length_append, List.length_take, List.length_drop, hcl, hvl]
  omega
/-- in place -/
theorem own_shift (hcl : cs.length = n * size) (hvl : vs.length = size) (hk : k ≤ n) (hroom : n + 1 ≤ cap) (hB : B ≤ g) (hlt : g < w.heap.size) (hcm : cap ≤ maxLen)
    (hs : ∀ j, j < cap * size → (w.cell? ⟨g, j, none⟩).isSome = true) (hf : ∀ j, j < cap * size → w.frozen? ⟨g, j, none⟩ = false) (hx : ∀ j u, cs[j]? = some u → w.cell? ⟨g, j, none⟩ = some u) :
    OwnC ((w.setCells g ((k + 1) * size) (cs.drop (k * size))).setCells g (k * size) vs) B size (.slice (some ⟨g, 0, none⟩) (n + 1) cap) (n + 1) (cs.take (k * size) ++ (vs ++ cs.drop (k * size))) ∧
    w.grownBy ((w.setCells g ((k + 1) * size) (cs.drop (k * size))).setCells g (k * size) vs) (some g) := by
  have hkl : k * size ≤ n * size := Nat.mul_le_mul_right _ hk
  have hk1 : (k + 1) * size = k * size + size := Nat.succ_mul _ _
  have hn1 : (n + 1) * size = n * size + size := Nat.succ_mul _ _
  have hcs : (n + 1) * size ≤ cap * size := Nat.mul_le_mul_right _ hroom
  have hdl : (cs.drop (k * size)).length = n * size - k * size := by rw [List.length_drop, hcl]
  have hs1 : ∀ j, j < cap * size → ((w.setCells g ((k + 1) * size) (cs.drop (k * size))).cell? ⟨g, j, none⟩).isSome = true := fun j hj => World.isSome_setCells g _ _ w _ (hs j hj)
  refine ⟨⟨insert_len hcl hvl hk, .inr ⟨g, cap, rfl, hB, ?_, hroom, hcm, fun j hj => World.isSome_setCells g _ _ _ _ (hs1 j hj), fun j hj => by rw [World.frozen?_setCells, World.frozen?_setCells]; exact hf j hj, ?_⟩⟩, ?_⟩
  · rw [size_setCellsC, size_setCellsC]; exact hlt
  · refine insert_cells hcl hvl hk (fun j => ((w.setCells g ((k + 1) * size) (cs.drop (k * size))).setCells g (k * size) vs).cell? ⟨g, j, none⟩) (fun j u hj hu => ?_) (fun j u hu => ?_) (fun j u hu => ?_)
    · show World.cell? _ _ = _
      rw [World.cell?_setCells_out _ _ _ _ _ (fun _ _ => .inl hj), World.cell?_setCells_out _ _ _ _ _ (fun _ _ => .inl (by show j < _; omega))]
      exact hx j u hu
    · obtain ⟨hj, rfl⟩ := List.getElem?_eq_some_iff.1 hu
      exact World.cell?_setCells_in g vs (k * size) _ (fun i hi => hs1 _ (by omega)) j hj
    · obtain ⟨hj, rfl⟩ := List.getElem?_eq_some_iff.1 hu
      show World.cell? _ _ = _
      rw [World.cell?_setCells_out _ _ _ _ _ (fun _ _ => .inr (by show _ ≤ (k + 1) * size + j; omega))]
      exact World.cell?_setCells_in g (cs.drop (k * size)) ((k + 1) * size) _ (fun i hi => hs _ (by omega)) j hj
  · exact ⟨by rw [World.os_setCells, World.os_setCells], by rw [tape_setCellsC, tape_setCellsC], by rw [World.output_setCells, World.output_setCells], by rw [size_setCellsC, size_setCellsC]; exact Nat.le_refl _, fun i hi hne => by
      rw [World.heap_setCells_other _ g _ vs (by rw [size_setCellsC]; exact hi) (fun e => hne (by rw [e])), World.heap_setCells_other _ g _ _ hi (fun e => hne (by rw [e]))]⟩
/-- in a new row -/
theorem own_fresh {W : World} (hcl : cs.length = n * size) (hvl : vs.length = size) (hk : k ≤ n) (hroom : n + 1 ≤ cap) (hB : B ≤ g) (hlt : g < W.heap.size) (hcm : cap ≤ maxLen)
    (hs : ∀ j, j < cap * size → (W.cell? ⟨g, j, none⟩).isSome = true) (hf : ∀ j, j < cap * size → W.frozen? ⟨g, j, none⟩ = false) (hx : ∀ j u, j < k * size → cs[j]? = some u → W.cell? ⟨g, j, none⟩ = some u) :
    OwnC ((W.setCells g (k * size) vs).setCells g ((k + 1) * size) (cs.drop (k * size))) B size (.slice (some ⟨g, 0, none⟩) (n + 1) cap) (n + 1) (cs.take (k * size) ++ (vs ++ cs.drop (k * size))) ∧
    W.grownBy ((W.setCells g (k * size) vs).setCells g ((k + 1) * size) (cs.drop (k * size))) (some g) := by
  have hkl : k * size ≤ n * size := Nat.mul_le_mul_right _ hk
  have hk1 : (k + 1) * size = k * size + size := Nat.succ_mul _ _
  have hn1 : (n + 1) * size = n * size + size := Nat.succ_mul _ _
  have hcs : (n + 1) * size ≤ cap * size := Nat.mul_le_mul_right _ hroom
  have hdl : (cs.drop (k * size)).length = n * size - k * size := by rw [List.length_drop, hcl]
  have hs1 : ∀ j, j < cap * size → ((W.setCells g (k * size) vs).cell? ⟨g, j, none⟩).isSome = true := fun j hj => World.isSome_setCells g _ _ W _ (hs j hj)
  refine ⟨⟨insert_len hcl hvl hk, .inr ⟨g, cap, rfl, hB, ?_, hroom, hcm, fun j hj => World.isSome_setCells g _ _ _ _ (hs1 j hj), fun j hj => by rw [World.frozen?_setCells, World.frozen?_setCells]; exact hf j hj, ?_⟩⟩, ?_⟩
  · rw [size_setCellsC, size_setCellsC]; exact hlt
  · refine insert_cells hcl hvl hk (fun j => ((W.setCells g (k * size) vs).setCells g ((k + 1) * size) (cs.drop (k * size))).cell? ⟨g, j, none⟩) (fun j u hj hu => ?_) (fun j u hu => ?_) (fun j u hu => ?_)
    · show World.cell? _ _ = _
      rw [World.cell?_setCells_out _ _ _ _ _ (fun _ _ => .inl (by show j < _; omega)), World.cell?_setCells_out _ _ _ _ _ (fun _ _ => .inl hj)]
      exact hx j u hj hu
    · obtain ⟨hj, rfl⟩ := List.getElem?_eq_some_iff.1 hu
      show World.cell? _ _ = _
      rw [World.cell?_setCells_out _ _ _ _ _ (fun _ _ => .inl (by show k * size + j < _; omega))]
      exact World.cell?_setCells_in g vs (k * size) _ (fun i hi => hs _ (by omega)) j hj
    · obtain ⟨hj, rfl⟩ := List.getElem?_eq_some_iff.1 hu
      exact World.cell?_setCells_in g (cs.drop (k * size)) ((k + 1) * size) _ (fun i hi => hs1 _ (by omega)) j hj
  · exact ⟨by rw [World.os_setCells, World.os_setCells], by rw [tape_setCellsC, tape_setCellsC], by rw [World.output_setCells, World.output_setCells], by rw [size_setCellsC, size_setCellsC]; exact Nat.le_refl _, fun i hi hne => by
      rw [World.heap_setCells_other _ g _ _ (by rw [size_setCellsC]; exact hi) (fun e => hne (by rw [e])), World.heap_setCells_other _ g _ _ hi (fun e => hne (by rw [e]))]⟩
end
end Go.Proofs.Ytaglomhmnoldlaa
