/- A map of the call's own, keyed by whatever is told apart by '==' alone: as a function on keys. No program in sight. -/
import Derived.Test.YtaglomhmnoldlaaWords
import Derived.MapKept
import Derived.Carry
namespace Go.Proofs.Ytaglomhmnoldlaa
open Go.RowKit

/-- what is asked of a map's type: its key's kind is no plain one, keys are told apart by 'kv' -/
structure MapTy {K : Type} [DecidableEq K] (P : Program) (kv : K → Value) (mt kt et : TypeId) (z : Value) : Prop where
  map_ : P.underlying mt = some (.map kt et)
  zero : ∀ w, (zeroValue et).run P w = .ok z w
  eq : ∀ (a b : K) (w : World), (Op.equal kt (kv a) (kv b)).run P w = .ok (decide (a = b)) w
  check : ∀ (e : Bool) (a : K) (w : World), (Instr.checkKey e 10000 kt (kv a)).run P w = .ok () w
  wide : ∃ d, P.underlying kt = some d ∧ ∀ a b : K, Instr.sameNow d (kv a) (kv b) = none
  bits : ∀ a : K, Instr.sameBits 10000 (kv a) (kv a) = true

section
variable {K : Type} [DecidableEq K] {P : Program} {kv : K → Value} {mt kt et : TypeId} {z : Value}

def ent (kv : K → Value) (e : K × Value × Nat) : MapEntry := { key := kv e.1, val := e.2.1, born := e.2.2 }
/-- where a key stands first -/
def place (ms : List (K × Value × Nat)) (k : K) : Option (Nat × (K × Value × Nat)) :=
  match ms with
  | [] => none
  | e :: r => if k = e.1 then some (0, e) else (place r k).map fun p => (p.1 + 1, p.2)
def get (ms : List (K × Value × Nat)) (k : K) : Option Value := (place ms k).map (·.2.2.1)

theorem place_at {ms : List (K × Value × Nat)} {k : K} {i : Nat} {e : K × Value × Nat} (h : place ms k = some (i, e)) : ms[i]? = some e ∧ e.1 = k := by
  induction ms generalizing i with
  | nil => cases h
  | cons a r ih =>
    unfold place at h
    by_cases c : k = a.1
    · rw [if_pos c] at h; cases h; exact ⟨rfl, c.symm⟩
    · rw [if_neg c] at h
      cases hp : place r k with
      | none => rw [hp] at h; cases h
      | some p =>
        rw [hp] at h
        cases h
        exact ih hp

theorem asking (M : MapTy P kv mt kt et z) (k : K) (w : World) : ∀ (ms : List (K × Value × Nat)) (i : Nat),
    (Instr.findAsking kt (kv k) (ms.map (ent kv)) i).run P w = .ok ((place ms k).map fun p => (i + p.1, p.2.2.1)) w
  | [], i => rfl
  | e :: r, i => by
    simp only [List.map_cons, Instr.findAsking, Sem.run_bind, ent, M.eq, Result.andThen_ok]
    unfold place
    by_cases c : k = e.1
    · simp [c]
    · have ih := asking M k w r (i + 1)
      simp only [c, decide_false, Bool.false_eq_true, if_false]
      refine Eq.trans ih ?_
      cases place r k with
      | none => rfl
      | some p => simp; omega
theorem finding (M : MapTy P kv mt kt et z) (k : K) (w : World) (ms : List (K × Value × Nat)) :
    (Instr.findKey kt (kv k) (ms.map (ent kv))).run P w = .ok ((place ms k).map fun p => (p.1, p.2.2.1)) w := by
  obtain ⟨d, hd, hn⟩ := M.wide
  have ha := asking M k w ms 0
  simp only [Nat.zero_add] at ha
  unfold Instr.findKey
  simp only [Sem.run_bind, run_underlying hd, Result.andThen_ok]
  cases ms with
  | nil => simp [Instr.findNow, place]
  | cons e r =>
    have : Instr.findNow d (kv k) ((e :: r).map (ent kv)) 0 = none := by simp [Instr.findNow, ent, hn]
    rw [this]
    exact ha

/-- block b is a map that is f -/
def MapF (kv : K → Value) (w : World) (b : Nat) (f : K → Option Value) : Prop :=
  ∃ (ms : List (K × Value × Nat)) (clock : Nat), w.heap[b]? = some (.map (ms.map (ent kv)).toArray clock) ∧ (ms.map (·.2.2)).Nodup ∧ (∀ e ∈ ms, e.2.2 < clock) ∧ ∀ k, get ms k = f k
theorem MapF.new (w : World) : MapF kv (w.alloc (.map #[] 0)) w.heap.size (fun _ => none) := ⟨[], 0, heap_alloc_new w _, List.Pairwise.nil, by simp, fun _ => rfl⟩
theorem MapF.lt {w : World} {b : Nat} {f : K → Option Value} (h : MapF kv w b f) : b < w.heap.size := by
  obtain ⟨ms, c, hb, _⟩ := h
  rcases Nat.lt_or_ge b w.heap.size with hlt | hge
  · exact hlt
  · rw [Array.getElem?_eq_none hge] at hb; cases hb
theorem MapF.heap {w w' : World} {b : Nat} {f : K → Option Value} (h : MapF kv w b f) (hb : w'.heap[b]? = w.heap[b]?) : MapF kv w' b f := by
  obtain ⟨ms, c, h1, rest⟩ := h
  exact ⟨ms, c, hb.trans h1, rest⟩
theorem MapF.below {w w' : World} {b : Nat} {f : K → Option Value} (h : MapF kv w b f) (hb : Below w.heap.size w w') : MapF kv w' b f := h.heap (hb.block b h.lt)
/-- m[k] -/
theorem MapF.look (M : MapTy P kv mt kt et z) {w : World} {b : Nat} {f : K → Option Value} (h : MapF kv w b f) (k : K) :
    (Instr.lookup mt (.map (some b)) (kv k) false).run P w = .ok ((f k).getD z) w := by
  obtain ⟨ms, c, hb, _, _, hf⟩ := h
  have hfi := finding M k w ms
  simp only [Instr.lookup, Sem.run_bind, run_underlying M.map_, Go.MapKept.run_getObj_map hb, Sem.run_pure, Result.andThen_ok, M.check, hfi]
  rw [← hf k]
  unfold get
  cases place ms k with
  | none => simp [M.zero]
  | some p => simp

/-! ### writing -/
def setAt (ms : List (K × Value × Nat)) (i : Nat) (v : Value) : List (K × Value × Nat) := ms.modify i fun e => (e.1, v, e.2.2)
theorem get_setAt {ms : List (K × Value × Nat)} {k : K} {i : Nat} {e : K × Value × Nat} (h : place ms k = some (i, e)) (v : Value) (k' : K) : get (setAt ms i v) k' = if k' = k then some v else get ms k' := by
  induction ms generalizing i with
  | nil => cases h
  | cons a r ih =>
    unfold place at h
    by_cases c : k = a.1
    · rw [if_pos c] at h; cases h
      simp only [setAt, List.modify_zero_cons, get, place]
      by_cases c' : k' = k
      · rw [if_pos c', if_pos (c'.trans c)]; rfl
      · rw [if_neg c', if_neg (fun h => c' (h.trans c.symm)), if_neg (fun h => c' (h.trans c.symm))]
    · rw [if_neg c] at h
      cases hp : place r k with
      | none => rw [hp] at h; cases h
      | some p =>
        rw [hp] at h
        cases h
        have := ih hp
        simp only [setAt, List.modify_succ_cons, get, place] at this ⊢
        by_cases c' : k' = a.1
        · rw [if_pos c', if_pos c', if_neg (fun h => c (h.symm.trans c'))]
        · rw [if_neg c', if_neg c']
          simpa [Option.map_map, Function.comp_def] using this
theorem get_push {ms : List (K × Value × Nat)} {k : K} (h : place ms k = none) (v : Value) (n : Nat) (k' : K) : get (ms ++ [(k, v, n)]) k' = if k' = k then some v else get ms k' := by
  induction ms with
  | nil =>
    simp only [get, List.nil_append, place]
    by_cases c' : k' = k <;> simp [c']
  | cons a r ih =>
    unfold place at h
    by_cases c : k = a.1
    · rw [if_pos c] at h; cases h
    · rw [if_neg c] at h
      have hp : place r k = none := by
        cases hp : place r k with
        | none => rfl
        | some p => rw [hp] at h; cases h
      have := ih hp
      simp only [get, List.cons_append, place] at this ⊢
      by_cases c' : k' = a.1
      · rw [if_pos c', if_pos c', if_neg (fun h => c (h.symm.trans c'))]
      · rw [if_neg c', if_neg c']
        simpa [Option.map_map, Function.comp_def] using this
omit [DecidableEq K] in
theorem born_at {ms : List (K × Value × Nat)} (hn : (ms.map (·.2.2)).Nodup) {i : Nat} {e : K × Value × Nat} (he : ms[i]? = some e) :
    ((ms.map (ent kv)).toArray.findIdx? fun x => ((x.born : Nat) : Int) == (e.2.2 : Int)) = some i := by
  rw [List.findIdx?_toArray, List.findIdx?_eq_some_iff_getElem]
  obtain ⟨hi, rfl⟩ := List.getElem?_eq_some_iff.1 he
  refine ⟨by simpa using hi, by simp [ent], fun j hj => ?_⟩
  have hj' : j < ms.length := by omega
  simp only [List.getElem_map, ent]
  intro hc
  have hc' : ms[j].2.2 = ms[i].2.2 := by
    have h1 : ((ms[j].2.2 : Nat) : Int) = ((ms[i].2.2 : Nat) : Int) := by simpa using hc
    exact Int.ofNat_inj.1 h1
  exact List.pairwise_iff_getElem.1 hn j i (by simpa using hj') (by simpa using hi) hj (by simpa using hc')
theorem set_obj {w : World} {b : Nat} (o : Obj) {es : Array MapEntry} {c : Nat} (hb : w.heap[b]? = some (.map es c)) : ∃ w', (setObj b o).run P w = .ok () w' ∧ w'.heap[b]? = some o ∧ w.grownBy w' (some b) ∧ w'.heap.size = w.heap.size :=
  ⟨_, Go.MapKept.run_setObj_map o hb, (Go.MapKept.heap_set hb).1, ⟨rfl, rfl, rfl, by simp, fun i _ hne => (Go.MapKept.heap_set hb).2 i (fun e => hne (by rw [e]))⟩, by simp⟩
omit [DecidableEq K] in
theorem setAt_born (ms : List (K × Value × Nat)) (i : Nat) (v : Value) : (setAt ms i v).map (·.2.2) = ms.map (·.2.2) := by
  apply List.ext_getElem?
  intro j
  simp only [setAt, List.getElem?_map, List.getElem?_modify]
  by_cases c : i = j
  · subst c; cases ms[i]? <;> simp
  · cases ms[j]? <;> simp [c]
theorem entry_store {w : World} {b : Nat} {ms : List (K × Value × Nat)} {c : Nat} (hb : w.heap[b]? = some (.map (ms.map (ent kv)).toArray c)) (hnd : (ms.map (·.2.2)).Nodup) (hlt : ∀ e ∈ ms, e.2.2 < c)
    {k : K} {i : Nat} {e : K × Value × Nat} (hp : place ms k = some (i, e)) (mt : TypeId) (val : Value) :
    ∃ w2, (Instr.entryStore mt (.map (some b)) (.int .i64 (e.2.2 : Nat)) val).run P w = .ok () w2 ∧ MapF kv w2 b (fun k' => if k' = k then some val else get ms k') ∧ w.grownBy w2 (some b) ∧ w2.heap.size = w.heap.size := by
  obtain ⟨hi, hek⟩ := place_at hp
  have hmod : ((ms.map (ent kv)).toArray.modify i fun x => { x with val := val }) = ((setAt ms i val).map (ent kv)).toArray := by
    apply Array.ext_getElem?
    intro j
    simp only [setAt, Array.getElem?_modify, List.getElem?_toArray, List.getElem?_map, List.getElem?_modify]
    by_cases cj : i = j
    · subst cj; simp [hi, ent]
    · simp [cj]
  obtain ⟨w2, hr, hb2, hg2, hs2⟩ := set_obj (P := P) (.map ((setAt ms i val).map (ent kv)).toArray c) hb
  have hborn := born_at (kv := kv) hnd hi
  refine ⟨w2, ?_, ⟨_, c, hb2, by rw [setAt_born]; exact hnd, fun x hx => ?_, fun k' => get_setAt hp val k'⟩, hg2, hs2⟩
  · simp only [Instr.entryStore, Sem.run_bind, Go.MapKept.run_getObj_map hb, Result.andThen_ok, asInt, asIntOf, Sem.run_pure, hborn, hmod, hr]
  · have : x.2.2 ∈ (setAt ms i val).map (·.2.2) := List.mem_map.2 ⟨x, hx, rfl⟩
    rw [setAt_born] at this
    obtain ⟨y, hy, e⟩ := List.mem_map.1 this
    rw [← e]; exact hlt y hy
theorem place_push {ms : List (K × Value × Nat)} {k : K} (h : place ms k = none) (v : Value) (n : Nat) : place (ms ++ [(k, v, n)]) k = some (ms.length, (k, v, n)) := by
  induction ms with
  | nil => simp [place]
  | cons a r ih =>
    unfold place at h
    by_cases c : k = a.1
    · rw [if_pos c] at h; cases h
    · rw [if_neg c] at h
      have hp : place r k = none := by
        cases hp : place r k with
        | none => rfl
        | some p => rw [hp] at h; cases h
      simp only [List.cons_append, place]
      rw [if_neg c, ih hp]
      simp
/-- m[k] op= ..: its first half, and whatever is stored then -/
theorem MapF.entry (M : MapTy P kv mt kt et z) {w : World} {b : Nat} {f : K → Option Value} (h : MapF kv w b f) (k : K) :
    ∃ w1 st, (Instr.mapEntry mt (.map (some b)) (kv k)).run P w = .ok (.tuple #[(f k).getD z, .int .i64 st]) w1 ∧ MapF kv w1 b (fun k' => if k' = k then some ((f k).getD z) else f k') ∧ w.grownBy w1 (some b) ∧ w1.heap.size = w.heap.size ∧
      ∀ val, ∃ w2, (Instr.entryStore mt (.map (some b)) (.int .i64 st) val).run P w1 = .ok () w2 ∧ MapF kv w2 b (fun k' => if k' = k then some val else f k') ∧ w.grownBy w2 (some b) ∧ w2.heap.size = w.heap.size := by
  obtain ⟨ms, c, hb, hnd, hlt, hf⟩ := h
  have hfi := finding M k w ms
  cases hp : place ms k with
  | some p =>
    obtain ⟨i, e⟩ := p
    obtain ⟨hi, hek⟩ := place_at hp
    have hfk : f k = some e.2.1 := by rw [← hf k]; unfold get; rw [hp]; rfl
    have hsame : ((ms.map (ent kv)).toArray.modify i fun x => { x with key := kv k }) = (ms.map (ent kv)).toArray := by
      apply Array.ext_getElem?
      intro j
      rw [Array.getElem?_modify]
      by_cases cj : i = j
      · subst cj
        simp [hi, ent, hek]
      · simp [cj]
    obtain ⟨w1, hr, hb1, hg1, hs1⟩ := set_obj (P := P) (.map (ms.map (ent kv)).toArray c) hb
    refine ⟨w1, e.2.2, ?_, ⟨ms, c, hb1, hnd, hlt, fun k' => ?_⟩, hg1, hs1, fun val => ?_⟩
    · simp only [Instr.mapEntry, Sem.run_bind, run_underlying M.map_, Go.MapKept.run_getObj_map hb, Result.andThen_ok, M.check, hfi, hp, Option.map_some]
      have h1 : ((ms.map (ent kv)).toArray[i]?) = some (ent kv e) := by simp [hi]
      rw [h1]
      simp only [Option.map_some, Option.getD_some]
      rw [show (ent kv e).key = kv k from by rw [← hek]; rfl]
      simp only [Instr.keyThatStays, M.bits, if_true, Sem.run_pure, Result.andThen_ok, hsame, hr, hfk, goInt]
      rfl
    · show get ms k' = if k' = k then some ((f k).getD z) else f k'
      by_cases ck : k' = k
      · rw [if_pos ck, ck, hf k, hfk]; rfl
      · rw [if_neg ck, hf k']
    · obtain ⟨w2, h1, h2, h3, h4⟩ := entry_store (P := P) (kv := kv) hb1 hnd hlt hp mt val
      refine ⟨w2, h1, ?_, gb_trans hg1 h3, h4.trans hs1⟩
      have : (fun k' => if k' = k then some val else get ms k') = (fun k' => if k' = k then some val else f k') := by funext k'; rw [hf k']
      rw [← this]; exact h2
  | none =>
    have hfk : f k = none := by rw [← hf k]; unfold get; rw [hp]; rfl
    have hpush : ((ms.map (ent kv)).toArray.push { key := kv k, val := z, born := c }) = ((ms ++ [(k, z, c)]).map (ent kv)).toArray := by simp [ent]
    obtain ⟨w1, hr, hb1, hg1, hs1⟩ := set_obj (P := P) (.map ((ms ++ [(k, z, c)]).map (ent kv)).toArray (c + 1)) hb
    have hnd1 : ((ms ++ [(k, z, c)]).map (·.2.2)).Nodup := by
      rw [List.map_append]
      refine List.nodup_append.2 ⟨hnd, by simp, ?_⟩
      intro a ha b hb'
      obtain ⟨x, hx, rfl⟩ := List.mem_map.1 ha
      simp at hb'
      have := hlt x hx
      omega
    have hlt1 : ∀ e ∈ ms ++ [(k, z, c)], e.2.2 < c + 1 := by
      intro e he
      rcases List.mem_append.1 he with h | h
      · have := hlt e h; omega
      · simp at h; rw [h]; exact Nat.lt_succ_self _
    refine ⟨w1, c, ?_, ⟨_, c + 1, hb1, hnd1, hlt1, fun k' => ?_⟩, hg1, hs1, fun val => ?_⟩
    · simp only [Instr.mapEntry, Sem.run_bind, run_underlying M.map_, Go.MapKept.run_getObj_map hb, Result.andThen_ok, M.check, hfi, hp, Option.map_none, M.zero, hpush, hr, hfk, Sem.run_pure, goInt, Option.getD_none]
    · show get (ms ++ [(k, z, c)]) k' = if k' = k then some ((f k).getD z) else f k'
      rw [get_push hp, hfk, hf k']; rfl
    · obtain ⟨w2, h1, h2, h3, h4⟩ := entry_store (P := P) (kv := kv) hb1 hnd1 hlt1 (place_push hp z c) mt val
      refine ⟨w2, h1, ?_, gb_trans hg1 h3, h4.trans hs1⟩
      have : (fun k' => if k' = k then some val else get (ms ++ [(k, z, c)]) k') = (fun k' => if k' = k then some val else f k') := by
        funext k'
        rw [get_push hp, hf k']
        by_cases ck : k' = k <;> simp [ck]
      rw [← this]; exact h2
end
end Go.Proofs.Ytaglomhmnoldlaa
