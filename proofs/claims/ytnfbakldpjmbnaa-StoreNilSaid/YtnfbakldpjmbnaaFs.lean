/- A map of strings to strings, filled and never emptied: known whole as the list of its entries. No program in sight. -/
import Derived.Test.YtnfbakldpjmbnaaWords
import Derived.Test.YtnfbakldpjmbnaaBs
import Derived.MapKept
import Derived.Maps.Range
namespace Go.Proofs.Ytnfbakldpjmbnaa.Fm
open Go.RowKit
open Go.ChangeMaps (setBlock)

abbrev Bytes := List UInt8
abbrev Files := List (Bytes × Bytes)
def fent (n : Nat) (e : Bytes × Bytes) : MapEntry := { key := .string (bs e.1), val := .string (bs e.2), born := n }
def fents : Nat → Files → List MapEntry
  | _, [] => []
  | n, e :: r => fent n e :: fents (n + 1) r
def fobj (fs : Files) : Obj := .map (fents 0 fs).toArray fs.length
def Fs (w : World) (b : Nat) (fs : Files) : Prop := w.heap[b]? = some (fobj fs)
def place : Files → Bytes → Option (Nat × Bytes)
  | [], _ => none
  | e :: r, k => if e.1 = k then some (0, e.2) else (place r k).map fun p => (p.1 + 1, p.2)
def get (fs : Files) (k : Bytes) : Option Bytes := (place fs k).map (·.2)
def put : Files → Bytes → Bytes → Files
  | [], k, v => [(k, v)]
  | e :: r, k, v => if e.1 = k then (k, v) :: r else e :: put r k v
def tot (fs : Files) : Nat := (fs.map (·.2.length)).sum

theorem bs_beq (a b : Bytes) : (bs a == bs b) = decide (a = b) := by
  show ((bs a).data == (bs b).data) = _
  rw [Bool.eq_iff_iff]
  simp [bs]
theorem get_put (fs : Files) (k v k' : Bytes) : get (put fs k v) k' = if k = k' then some v else get fs k' := by
  induction fs with
  | nil =>
    simp only [put, get, place]
    by_cases h : k = k' <;> simp [h]
  | cons e r ih =>
    unfold put
    by_cases h1 : e.1 = k
    · rw [if_pos h1]
      simp only [get, place]
      by_cases h2 : k = k'
      · simp [h2]
      · rw [if_neg h2, if_neg (fun h => h2 (h1.symm.trans h)), if_neg h2]
    · rw [if_neg h1]
      simp only [get, place] at ih ⊢
      by_cases h3 : e.1 = k'
      · rw [if_pos h3, if_pos h3, if_neg (fun h => h1 (h3.trans h.symm))]
      · rw [if_neg h3, if_neg h3]
        simpa [Option.map_map, Function.comp_def] using ih

section
variable {P : Program} {w w' : World} {b n : Nat} {fs : Files}
theorem Fs.lt (h : Fs w b fs) : b < w.heap.size := by
  rcases Nat.lt_or_ge b w.heap.size with hlt | hge
  · exact hlt
  · unfold Fs at h; rw [Array.getElem?_eq_none hge] at h; cases h
theorem Fs.heap (h : Fs w b fs) (hb : w'.heap[b]? = w.heap[b]?) : Fs w' b fs := hb.trans h
theorem Fs.below (h : Fs w b fs) (hb : Below w.heap.size w w') : Fs w' b fs := hb.block b h.lt |>.trans h
theorem Fs.grown {row : Option Nat} (h : Fs w b fs) (hb : w.grownBy w' row) (hg : some b ≠ row) : Fs w' b fs := (hb.block b h.lt hg).trans h
theorem Fs.drew (h : Fs w b fs) : Fs w.drew b fs := h
theorem Fs.alloc (h : Fs w b fs) (o : Obj) : Fs (w.alloc o) b fs := (Below.heap_alloc w o b h.lt).trans h
theorem Fs.setCell (h : Fs w b fs) {p : Addr} (hp : b ≠ p.block) (u : Value) : Fs (w.setCell p u) b fs := (Below.heap_setCell w p u b hp).trans h
theorem Fs.new (w : World) : Fs (w.alloc (.map #[] 0)) w.heap.size [] := heap_alloc_new w _
theorem Fs.ne_blk (h : Fs w b fs) {g : Nat} {t : TypeId} {cs : Array Value} (hg : Blk w g t cs) : b ≠ g := by
  rintro rfl
  unfold Fs Blk at *
  rw [h] at hg
  cases hg
theorem now_key (k : Bytes) : ∀ (fs : Files) (n i : Nat), Instr.findNow .string (.string (bs k)) (fents n fs) i = some ((place fs k).map fun p => (i + p.1, .string (bs p.2)))
  | [], _, _ => rfl
  | e :: r, n, i => by
    have ih := now_key k r (n + 1) (i + 1)
    simp only [fents, Instr.findNow, fent, Instr.sameNow, place]
    by_cases h : e.1 = k
    · subst h; simp [bs_beq]
    · have : (bs k == bs e.1) = false := by
        rw [bs_beq]
        simpa using fun h' => h (Eq.symm h')
      rw [this, if_neg h]
      simp only
      rw [ih]
      cases place r k with
      | none => rfl
      | some p => simp; omega
theorem find_key {kt : TypeId} (hk : P.underlying kt = some .string) (k : Bytes) (w : World) (fs : Files) :
    (Instr.findKey kt (.string (bs k)) (fents 0 fs)).run P w = .ok ((place fs k).map fun p => (p.1, .string (bs p.2))) w := by
  unfold Instr.findKey
  simp only [Sem.run_bind, run_underlying hk, Result.andThen_ok, now_key, Sem.run_pure, Nat.zero_add]
theorem check_key {kt : TypeId} (hk : P.underlying kt = some .string) (k : Bytes) (e : Bool) (w : World) : (Instr.checkKey e 10000 kt (.string (bs k))).run P w = .ok () w := by
  unfold Instr.checkKey
  simp only [Sem.run_bind, run_underlying hk, Result.andThen_ok, Sem.run_pure]
theorem zero_str {et : TypeId} (hz : ∀ w, (zeroValue et).run P w = .ok (.string ⟨#[]⟩) w) (w : World) : (zeroValue et).run P w = .ok (.string (bs [])) w := hz w

/-- m[k] -/
theorem Fs.look {mt kt et : TypeId} (hm : P.underlying mt = some (.map kt et)) (hk : P.underlying kt = some .string) (hz : ∀ w, (zeroValue et).run P w = .ok (.string ⟨#[]⟩) w) (h : Fs w b fs) (k : Bytes) :
    (Instr.lookup mt (.map (some b)) (.string (bs k)) false).run P w = .ok (.string (bs ((get fs k).getD []))) w := by
  have hfi := find_key (P := P) hk k w fs
  simp only [Instr.lookup, Sem.run_bind, run_underlying hm, Go.MapKept.run_getObj_map h, Sem.run_pure, Result.andThen_ok, check_key hk, hfi]
  unfold get
  cases place fs k with
  | none => simp [zero_str hz]
  | some p => simp
/-- v, is := m[k] -/
theorem Fs.look2 {mt kt et : TypeId} (hm : P.underlying mt = some (.map kt et)) (hk : P.underlying kt = some .string) (hz : ∀ w, (zeroValue et).run P w = .ok (.string ⟨#[]⟩) w) (h : Fs w b fs) (k : Bytes) :
    (Instr.lookup mt (.map (some b)) (.string (bs k)) true).run P w = .ok (.tuple #[.string (bs ((get fs k).getD [])), .bool (get fs k).isSome]) w := by
  have hfi := find_key (P := P) hk k w fs
  simp only [Instr.lookup, Sem.run_bind, run_underlying hm, Go.MapKept.run_getObj_map h, Sem.run_pure, Result.andThen_ok, check_key hk, hfi]
  unfold get
  cases place fs k with
  | none => simp [zero_str hz]
  | some p => simp
theorem fents_append : ∀ (fs gs : Files) (n : Nat), fents n (fs ++ gs) = fents n fs ++ fents (n + fs.length) gs
  | [], _, _ => rfl
  | e :: r, gs, n => by simp only [List.cons_append, fents, fents_append r gs (n + 1), List.length_cons]; congr 3; omega
theorem put_new : ∀ {fs : Files} {k : Bytes}, place fs k = none → ∀ v, put fs k v = fs ++ [(k, v)]
  | [], _, _, _ => rfl
  | e :: r, k, h, v => by
    unfold place at h
    by_cases c : e.1 = k
    · rw [if_pos c] at h; cases h
    · rw [if_neg c] at h
      have : place r k = none := by
        cases hp : place r k with
        | none => rfl
        | some p => rw [hp] at h; cases h
      unfold put
      rw [if_neg c, put_new this v]; rfl
theorem put_old : ∀ {fs : Files} {k : Bytes} {i : Nat} {u : Bytes}, place fs k = some (i, u) → ∀ (v : Bytes) (n : Nat), (fents n fs).modify i (fun e => { e with key := .string (bs k), val := .string (bs v) }) = fents n (put fs k v)
  | [], _, _, _, h, _, _ => by cases h
  | e :: r, k, i, u, h, v, n => by
    unfold place at h
    unfold put
    by_cases c : e.1 = k
    · rw [if_pos c] at h; cases h
      rw [if_pos c]
      simp [fents, fent]
    · rw [if_neg c] at h ⊢
      cases hp : place r k with
      | none => rw [hp] at h; cases h
      | some p =>
        rw [hp] at h
        cases h
        simp only [fents, List.modify_succ_cons]
        rw [put_old hp v (n + 1)]
theorem put_length : ∀ {fs : Files} {k : Bytes} {p : Nat × Bytes}, place fs k = some p → ∀ v, (put fs k v).length = fs.length
  | [], _, _, h, _ => by cases h
  | e :: r, k, p, h, v => by
    unfold place at h
    unfold put
    by_cases c : e.1 = k
    · rw [if_pos c]; rfl
    · rw [if_neg c] at h ⊢
      cases hp : place r k with
      | none => rw [hp] at h; cases h
      | some q => simp [put_length hp v]
theorem place_key : ∀ {fs : Files} {k : Bytes} {i : Nat} {u : Bytes} (n : Nat), place fs k = some (i, u) → ((fents n fs)[i]?).map (·.key) = some (.string (bs k))
  | [], _, _, _, _, h => by cases h
  | e :: r, k, i, u, n, h => by
    unfold place at h
    by_cases c : e.1 = k
    · rw [if_pos c] at h; cases h
      simp [fents, fent, c]
    · rw [if_neg c] at h
      cases hp : place r k with
      | none => rw [hp] at h; cases h
      | some p =>
        rw [hp] at h
        cases h
        simpa [fents] using place_key (n + 1) hp
theorem set_obj {w : World} {b : Nat} (o : Obj) {es : Array MapEntry} {c : Nat} (hb : w.heap[b]? = some (.map es c)) : ∃ w', (setObj b o).run P w = .ok () w' ∧ w'.heap[b]? = some o ∧ w.grownBy w' (some b) ∧ w'.heap.size = w.heap.size :=
  ⟨_, Go.MapKept.run_setObj_map o hb, (Go.MapKept.heap_set hb).1, ⟨rfl, rfl, rfl, by simp, fun i _ hne => (Go.MapKept.heap_set hb).2 i (fun e => hne (by rw [e]))⟩, by simp⟩
/-- m[k] = v -/
theorem Fs.store {mt kt et : TypeId} (hm : P.underlying mt = some (.map kt et)) (hk : P.underlying kt = some .string) (h : Fs w b fs) (k v : Bytes) :
    ∃ w', (Instr.mapUpdate mt (.map (some b)) (.string (bs k)) (.string (bs v))).run P w = .ok () w' ∧ Fs w' b (put fs k v) ∧ w.grownBy w' (some b) ∧ w'.heap.size = w.heap.size := by
  obtain ⟨w', hr, h1, h2, h3⟩ := set_obj (P := P) (fobj (put fs k v)) h
  refine ⟨w', ?_, h1, h2, h3⟩
  have hfi := find_key (P := P) hk k w fs
  simp only [Instr.mapUpdate, Sem.run_bind, run_underlying hm, Go.MapKept.run_getObj_map h, Result.andThen_ok, check_key hk, hfi]
  cases hp : place fs k with
  | none =>
    have e : (fobj (put fs k v)) = .map ((fents 0 fs).toArray.push { key := .string (bs k), val := .string (bs v), born := fs.length }) (fs.length + 1) := by
      rw [put_new hp]
      simp [fobj, fents_append, fents, fent]
    rw [e] at hr
    simpa using hr
  | some p =>
    obtain ⟨i, u⟩ := p
    have e : (fobj (put fs k v)) = .map ((fents 0 fs).toArray.modify i (fun e => { e with key := .string (bs k), val := .string (bs v) })) fs.length := by
      unfold fobj
      rw [put_length hp, ← put_old hp v 0]
      congr 1
      apply Array.toList_inj.1
      simp
    rw [e] at hr
    have hkey := place_key 0 hp
    have hbits : Instr.sameBits 10000 (.string (bs k)) (.string (bs k)) = true := by simp [Instr.sameBits, bs_beq]
    have hstay : (Instr.keyThatStays (.string (bs k)) (.string (bs k))).run P w = .ok (.string (bs k)) w := by unfold Instr.keyThatStays; rw [hbits]; rfl
    simp only [Option.map_some, List.getElem?_toArray, hkey, Option.getD_some, Sem.run_bind, hstay, Result.andThen_ok, hr]
/-! ### going over it -/
theorem born_fents : ∀ (fs : Files) (n : Nat), (fents n fs).map (·.born) = List.range' n fs.length
  | [], _ => rfl
  | e :: r, n => by simp [fents, fent, born_fents r (n + 1), List.range'_succ]
theorem fents_nodup (fs : Files) : ((fents 0 fs).map (·.born)).Nodup := by rw [born_fents]; exact List.nodup_range'
theorem fents_lt {fs : Files} {x : MapEntry} (h : x ∈ fents 0 fs) : x.born < fs.length := by
  have : x.born ∈ (fents 0 fs).map (·.born) := List.mem_map.2 ⟨x, h, rfl⟩
  rw [born_fents] at this
  simpa using List.mem_range'_1.1 this
def vlen (e : MapEntry) : Nat := match e.val with | .string s => s.size | _ => 0
theorem fents_tot : ∀ (fs : Files) (n : Nat), ((fents n fs).map vlen).sum = tot fs
  | [], _ => rfl
  | e :: r, n => by simp only [fents, List.map_cons, List.sum_cons, fents_tot r (n + 1), tot]; simp [vlen, fent, bs_size]
theorem fents_form : ∀ (fs : Files) (n : Nat), ∀ x ∈ fents n fs, ∃ k v, x.key = .string (bs k) ∧ x.val = .string (bs v)
  | [], _, x, h => by cases h
  | e :: r, n, x, h => by
    rcases List.mem_cons.1 h with rfl | h
    · exact ⟨e.1, e.2, rfl, rfl⟩
    · exact fents_form r (n + 1) x h
theorem left_sum {seen : Array Nat} {e : MapEntry} : ∀ {l : List MapEntry}, (l.map (·.born)).Nodup → e ∈ l → seen.contains e.born = false →
    ((l.filter fun x => !(seen.push e.born).contains x.born).map vlen).sum + vlen e = ((l.filter fun x => !seen.contains x.born).map vlen).sum ∧ (l.filter fun x => !(seen.push e.born).contains x.born).length + 1 = (l.filter fun x => !seen.contains x.born).length
  | [], _, h, _ => by cases h
  | a :: r, hn, h, hs => by
    rw [List.map_cons, List.nodup_cons] at hn
    obtain ⟨hn1, hn2⟩ := hn
    by_cases ha : a = e
    · subst ha
      have hr : r.filter (fun x => !(seen.push a.born).contains x.born) = r.filter (fun x => !seen.contains x.born) := by
        apply List.filter_congr
        intro x hx
        have hne : x.born ≠ a.born := fun e' => hn1 (e' ▸ List.mem_map.2 ⟨x, hx, rfl⟩)
        simp [hne]
      have h1 : (!(seen.push a.born).contains a.born) = false := by simp
      have h2 : (!seen.contains a.born) = true := by rw [hs]; rfl
      rw [List.filter_cons, List.filter_cons, h1, h2, hr]
      simp
      omega
    · have he : e ∈ r := by rcases List.mem_cons.1 h with h | h; exact absurd h.symm ha; exact h
      obtain ⟨i1, i2⟩ := left_sum hn2 he hs
      have hne : a.born ≠ e.born := fun e' => hn1 (e' ▸ List.mem_map.2 ⟨e, he, rfl⟩)
      have h1 : (!(seen.push e.born).contains a.born) = (!seen.contains a.born) := by simp [hne]
      rw [List.filter_cons, List.filter_cons, h1]
      cases (!seen.contains a.born) with
      | false => exact ⟨by simpa using i1, by simpa using i2⟩
      | true =>
        simp only [if_true, List.map_cons, List.sum_cons, List.length_cons]
        omega
/-- under way over block b by block r: what is still to come has so many bytes, in so many entries -/
def Rng (w : World) (b r : Nat) (fs : Files) (s cnt : Nat) : Prop :=
  ∃ seen c0, Fs w b fs ∧ w.heap[r]? = some (.mapIter (some b) fs.length seen c0) ∧ fs.length ≤ c0 ∧ (((fents 0 fs).filter fun x => !seen.contains x.born).map vlen).sum = s ∧ ((fents 0 fs).filter fun x => !seen.contains x.born).length = cnt
theorem left_list (fs : Files) (seen : Array Nat) : (leftOf (fents 0 fs).toArray seen).toList = (fents 0 fs).filter fun x => !seen.contains x.born := by
  unfold leftOf
  simp
theorem Rng.left {r s cnt : Nat} (h : Rng w b r fs s cnt) : w.rangeLeft b r = cnt := by
  obtain ⟨seen, c0, hb, hr, _, _, hc⟩ := h
  unfold World.rangeLeft
  unfold Fs fobj at hb
  rw [hb, hr]
  simp only
  rw [← hc, ← left_list, Array.length_toList]
theorem Rng.next {r s cnt : Nat} (h : Rng w b r fs s cnt) (ty : TypeId) :
    (cnt = 0 ∧ s = 0 ∧ (Instr.next (.pointer (some ⟨r, 0, none⟩)) false ty).run P w = .ok (.tuple #[.bool false]) w) ∨
    ∃ k v w', v.length ≤ s ∧ 0 < cnt ∧ (Instr.next (.pointer (some ⟨r, 0, none⟩)) false ty).run P w = .ok (.tuple #[.bool true, .string (bs k), .string (bs v)]) w' ∧ Rng w' b r fs (s - v.length) (cnt - 1) ∧ w.grownBy w' (some r) ∧
      (Instr.entry (.pointer (some ⟨r, 0, none⟩))).run P w' = .ok (.tuple #[.string (bs k), .string (bs v)]) w' := by
  obtain ⟨seen, c0, hb, hr, hle, hs, hc⟩ := h
  have hbr : b ≠ r := by rintro rfl; unfold Fs fobj at hb; rw [hb] at hr; cases hr
  rcases run_next_at (P := P) w ty r b fs.length c0 seen (fents 0 fs).toArray fs.length hr hb (fun x hx => fents_lt (by simpa using hx)) hle with ⟨h0, hrun⟩ | ⟨e, he, w1, hal, hrun⟩
  · have hnil : (fents 0 fs).filter (fun x => !seen.contains x.born) = [] := by
      rw [← left_list]
      exact List.eq_nil_of_length_eq_zero (by rw [Array.length_toList]; exact h0)
    rw [hnil] at hs hc
    exact .inl ⟨by rw [← hc]; rfl, by rw [← hs]; rfl, hrun⟩
  · rw [left_list, List.mem_filter] at he
    obtain ⟨hem, hes⟩ := he
    have hes' : seen.contains e.born = false := by simpa using hes
    obtain ⟨k, v, hk, hv⟩ := fents_form fs 0 e hem
    obtain ⟨s1, s2⟩ := left_sum (fents_nodup fs) hem hes'
    rw [hs] at s1
    rw [hc] at s2
    have hvl : vlen e = v.length := by unfold vlen; rw [hv]; simp [bs_size]
    rw [hvl] at s1
    have hr1 : w1.heap[r]? = some (.mapIter (some b) fs.length seen c0) := by rcases hal with rfl | rfl <;> exact hr
    have hset := MapKept.heap_set (o' := .mapIter (some b) fs.length (seen.push e.born) fs.length) hr1
    have hb' : Fs (setBlock w1 r (.mapIter (some b) fs.length (seen.push e.born) fs.length)) b fs := (hset.2 b (fun e1 => hbr e1)).trans (by rcases hal with rfl | rfl <;> exact hb)
    rw [hk, hv] at hrun
    refine .inr ⟨k, v, _, by omega, by omega, hrun, ⟨seen.push e.born, fs.length, hb', hset.1, Nat.le_refl _, by omega, by omega⟩, ?_, ?_⟩
    · have hg1 : w.grownBy w1 (some r) := by rcases hal with rfl | rfl; exact gb_refl _ _; exact gb_drew (gb_refl _ _)
      exact gb_trans hg1 ⟨rfl, rfl, rfl, by simp [setBlock], fun i _ hne => hset.2 i (fun e => hne (by rw [e]))⟩
    · have := run_entry_at (P := P) _ r b fs.length seen (fents 0 fs).toArray fs.length e hset.1 hb' (by simpa using hem) (by simpa using fents_nodup fs)
      rw [hk, hv] at this
      exact this
theorem Fs.range {mt kt et : TypeId} (hm : P.underlying mt = some (.map kt et)) (h : Fs w b fs) :
    ∃ w', (Instr.range mt (.map (some b))).run P w = .ok (.pointer (some ⟨w.heap.size, 0, none⟩)) w' ∧ Rng w' b w.heap.size fs (tot fs) fs.length ∧ Below w.heap.size w w' := by
  have hlt := h.lt
  refine ⟨_, run_range_map w mt kt et b _ _ hm h, ⟨#[], fs.length, h.alloc _, heap_alloc_new w _, Nat.le_refl _, ?_, ?_⟩, (Below.refl _ w).alloc (Nat.le_refl _) _⟩
  · rw [← fents_tot fs 0]; congr 2; simp
  · have : (fents 0 fs).filter (fun x => !(#[] : Array Nat).contains x.born) = fents 0 fs := by simp
    rw [this]
    have := congrArg List.length (born_fents fs 0)
    simpa using this
end
end Go.Proofs.Ytnfbakldpjmbnaa.Fm
