/- What stands above a node; lists of stamps of one's own; the map of those that were met. -/
import Derived.Test.YthaekoeekpofpaaG
namespace Go.Proofs.Ythaekoeekpofpaa
open Go.RowKit
attribute [local go_sem] bs_size bs_getElem bs_list bs_append

/-! ### the map of stamps -/
theorem eq_st (x y : St) (w : World) : (Op.equalIn 10000 30 (sv x) (sv y)).run Try.prog w = .ok (decide (x = y)) w := by
  obtain ⟨a1, a2⟩ := x
  obtain ⟨b1, b2⟩ := y
  unfold sv
  by_cases h1 : a1 = b1 <;> by_cases h2 : a2 = b2 <;> simp [go_sem, h1, h2]
theorem check_st (e : Bool) (x : St) (n : Nat) (w : World) : (Instr.checkKey e (n + 2) 30 (sv x)).run Try.prog w = .ok () w := by
  unfold sv
  simp [go_sem, Instr.checkKey, run_underlying Try.underlying30, run_underlying Try.underlying3]
theorem mapSt : MapTy Try.prog sv 56 30 4 (.bool false) where
  map_ := by kernel_rfl
  zero := fun w => by simp [go_sem]
  eq := fun x y w => eq_st x y w
  check := fun e x w => check_st e x 9998 w
  wide := ⟨_, Try.underlying30, fun a b => rfl⟩
  bits := fun s => by simp [Instr.sameBits, sv]
section
variable {K : Type} [DecidableEq K] {P : Program} {kv : K → Value} {mt kt et : TypeId} {z : Value}
/-- m[k] = v -/
theorem MapF.update (M : MapTy P kv mt kt et z) {w : World} {b : Nat} {f : K → Option Value} (h : MapF kv w b f) (k : K) (v : Value) :
    ∃ w1, (Instr.mapUpdate mt (.map (some b)) (kv k) v).run P w = .ok () w1 ∧ MapF kv w1 b (fun k' => if k' = k then some v else f k') ∧ w.grownBy w1 (some b) ∧ w1.heap.size = w.heap.size := by
  obtain ⟨ms, c, hb, hnd, hlt, hf⟩ := h
  have hfi := finding M k w ms
  cases hp : place ms k with
  | some p =>
    obtain ⟨i, e⟩ := p
    obtain ⟨hi, hek⟩ := place_at hp
    have hmod : ((ms.map (ent kv)).toArray.modify i fun x => { x with key := kv k, val := v }) = ((setAt ms i v).map (ent kv)).toArray := by
      apply Array.ext_getElem?
      intro j
      simp only [setAt, Array.getElem?_modify, List.getElem?_toArray, List.getElem?_map, List.getElem?_modify]
      by_cases cj : i = j
      · subst cj; simp [hi, ent, hek]
      · simp [cj]
    obtain ⟨w1, hr, hb1, hg1, hs1⟩ := set_obj (P := P) (.map ((setAt ms i v).map (ent kv)).toArray c) hb
    refine ⟨w1, ?_, ⟨_, c, hb1, by rw [setAt_born]; exact hnd, fun x hx => ?_, fun k' => ?_⟩, hg1, hs1⟩
    · simp only [Instr.mapUpdate, Sem.run_bind, run_underlying M.map_, Go.MapKept.run_getObj_map hb, Result.andThen_ok, M.check, hfi, hp, Option.map_some]
      have h1 : ((ms.map (ent kv)).toArray[i]?) = some (ent kv e) := by simp [hi]
      rw [h1]
      simp only [Option.map_some, Option.getD_some]
      rw [show (ent kv e).key = kv k from by rw [← hek]; rfl]
      simp only [Instr.keyThatStays, M.bits, if_true, Sem.run_pure, Result.andThen_ok, hmod, hr]
    · have : x.2.2 ∈ (setAt ms i v).map (·.2.2) := List.mem_map.2 ⟨x, hx, rfl⟩
      rw [setAt_born] at this
      obtain ⟨y, hy, e⟩ := List.mem_map.1 this
      rw [← e]; exact hlt y hy
    · show get (setAt ms i v) k' = if k' = k then some v else f k'
      rw [get_setAt hp, hf k']
  | none =>
    have hpush : ((ms.map (ent kv)).toArray.push { key := kv k, val := v, born := c }) = ((ms ++ [(k, v, c)]).map (ent kv)).toArray := by simp [ent]
    obtain ⟨w1, hr, hb1, hg1, hs1⟩ := set_obj (P := P) (.map ((ms ++ [(k, v, c)]).map (ent kv)).toArray (c + 1)) hb
    have hnd1 : ((ms ++ [(k, v, c)]).map (·.2.2)).Nodup := by
      rw [List.map_append]
      refine List.nodup_append.2 ⟨hnd, by simp, ?_⟩
      intro a ha b hb'
      obtain ⟨x, hx, rfl⟩ := List.mem_map.1 ha
      simp at hb'
      have := hlt x hx
      omega
    have hlt1 : ∀ e ∈ ms ++ [(k, v, c)], e.2.2 < c + 1 := by
      intro e he
      rcases List.mem_append.1 he with h | h
      · have := hlt e h; omega
      · simp at h; rw [h]; exact Nat.lt_succ_self _
    refine ⟨w1, ?_, ⟨_, c + 1, hb1, hnd1, hlt1, fun k' => ?_⟩, hg1, hs1⟩
    · simp only [Instr.mapUpdate, Sem.run_bind, run_underlying M.map_, Go.MapKept.run_getObj_map hb, Result.andThen_ok, M.check, hfi, hp, Option.map_none, hpush, hr]
    · show get (ms ++ [(k, v, c)]) k' = if k' = k then some v else f k'
      rw [get_push hp, hf k']
end
/-- the map of those that were met -/
def Met (w : World) (M : Nat) (l : List St) : Prop := ∃ f, MapF sv w M f ∧ ∀ s, (f s).getD (.bool false) = .bool (decide (s ∈ l))
theorem Met.new (w : World) : Met (w.alloc (.map #[] 0)) w.heap.size [] := ⟨_, MapF.new w, fun s => by simp⟩
theorem Met.heap {w w' : World} {M : Nat} {l : List St} (h : Met w M l) (hb : w'.heap[M]? = w.heap[M]?) : Met w' M l := by
  obtain ⟨f, h1, h2⟩ := h
  exact ⟨f, h1.heap hb, h2⟩
theorem Met.lt {w : World} {M : Nat} {l : List St} (h : Met w M l) : M < w.heap.size := by
  obtain ⟨f, h1, _⟩ := h
  exact h1.lt
theorem Met.look {w : World} {M : Nat} {l : List St} (h : Met w M l) (s : St) : (Instr.lookup 56 (.map (some M)) (sv s) false).run Try.prog w = .ok (.bool (decide (s ∈ l))) w := by
  obtain ⟨f, h1, h2⟩ := h
  rw [h1.look mapSt s, h2]
theorem Met.add {w : World} {M : Nat} {l : List St} (h : Met w M l) (s : St) :
    ∃ w1, (Instr.mapUpdate 56 (.map (some M)) (sv s) (.bool true)).run Try.prog w = .ok () w1 ∧ Met w1 M (l ++ [s]) ∧ w.grownBy w1 (some M) ∧ w1.heap.size = w.heap.size := by
  obtain ⟨f, h1, h2⟩ := h
  obtain ⟨w1, e1, e2, e3, e4⟩ := h1.update mapSt s (.bool true)
  refine ⟨w1, e1, ⟨_, e2, fun x => ?_⟩, e3, e4⟩
  by_cases c : x = s
  · simp [c]
  · simp only [if_neg c]
    rw [h2 x]
    simp [c]
theorem run_make (w : World) : (Instr.makeMap 56 none).run Try.prog w = .ok (.map (some w.heap.size)) (w.alloc (.map #[] 0)) := by simp [Instr.makeMap, go_sem]

/-! ### what stands above -/
def chainG (xs : List Nd) : Nat → List St → St → List St
  | 0, out, _ => out
  | f + 1, out, id => if id ∈ out then out else if hasN id xs then chainG xs f (out ++ [id]) (findN id xs).par else if out = [] then [] else out ++ [id]
def left (xs : List Nd) (out : List St) : Nat := (xs.filter fun x => decide (x.id ∉ out)).length
theorem filt_lt {p q : Nd → Bool} {xs : List Nd} (h : ∀ x, q x = true → p x = true) {x : Nd} (hx : x ∈ xs) (hp : p x = true) (hq : q x = false) : (xs.filter q).length < (xs.filter p).length := by
  have hle : ∀ ys : List Nd, (ys.filter q).length ≤ (ys.filter p).length := fun ys => by
    induction ys with
    | nil => simp
    | cons y ys ih =>
      simp only [List.filter_cons]
      cases hqy : q y with
      | true => rw [h y hqy]; simp; exact ih
      | false => cases p y <;> simp <;> omega
  induction xs with
  | nil => cases hx
  | cons y ys ih =>
    simp only [List.filter_cons]
    rcases List.mem_cons.1 hx with rfl | hx
    · rw [hp, hq]; simp; have := hle ys; omega
    · have := ih hx
      cases hqy : q y with
      | true => rw [h y hqy]; simp; exact this
      | false => cases p y <;> simp <;> omega
theorem has_mem {s : St} {xs : List Nd} (h : hasN s xs = true) : findN s xs ∈ xs ∧ (findN s xs).id = s := by
  unfold hasN at h
  unfold findN
  cases hf : xs.find? (isId s) with
  | none => rw [hf] at h; cases h
  | some x =>
    have h1 := List.find?_some hf
    exact ⟨List.mem_of_find?_eq_some hf, of_decide_eq_true h1⟩
theorem left_lt {xs : List Nd} {out : List St} {s : St} (h : hasN s xs = true) (hs : s ∉ out) : left xs (out ++ [s]) < left xs out := by
  obtain ⟨h1, h2⟩ := has_mem h
  refine filt_lt (fun x hx => ?_) h1 (by rw [h2]; simp [hs]) (by rw [h2]; simp)
  simp at hx ⊢
  exact hx.1
theorem left_nil (xs : List Nd) : left xs [] ≤ xs.length := List.length_filter_le _ _
/-- the chain of a stamp -/
def chainN (xs : List Nd) (s : St) : List St := chainG xs (xs.length + 1) [] s
end Go.Proofs.Ythaekoeekpofpaa
