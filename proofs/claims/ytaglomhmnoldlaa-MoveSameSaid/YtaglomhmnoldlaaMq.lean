/- The log in plain words: what is done, what is taken back, where an operation stands. -/
import Derived.Test.YtaglomhmnoldlaaMr
namespace Go.Proofs.Ytaglomhmnoldlaa
set_option linter.unusedSimpArgs false
set_option linter.unusedVariables false
open Go.RowKit

/-! ### done and taken back -/
theorem idx_ids (s : St) : ∀ es : List Nd, es.findIdx? (isId s) = (ids es).findIdx? (fun i => decide (i = s))
  | [] => rfl
  | e :: r => by
    have ih := idx_ids s r
    unfold ids at ih ⊢
    rw [List.map_cons, List.findIdx?_cons, List.findIdx?_cons, ih]
    rfl
theorem has_idx {s : St} {es : List Nd} (h : hasN s es = true) : ∃ i, ∃ hi : i < es.length, es.findIdx? (isId s) = some i ∧ findN s es = es[i] ∧ es[i].id = s := by
  have hf := findIdx_find (s := s) (xs := es)
  cases hp : es.findIdx? (isId s) with
  | none =>
    unfold hasN at h
    rw [hf.2 hp] at h
    cases h
  | some i =>
    obtain ⟨hi, h1, h2⟩ := hf.1 i hp
    exact ⟨i, hi, rfl, by unfold findN; rw [h1]; rfl, h2⟩
theorem hasnt_idx {s : St} {es : List Nd} (h : hasN s es = false) : es.findIdx? (isId s) = none ∧ s ∉ ids es := by
  have hf := findIdx_find (s := s) (xs := es)
  cases hp : es.findIdx? (isId s) with
  | none =>
    refine ⟨rfl, fun hm => ?_⟩
    obtain ⟨x, hx, he⟩ := List.mem_map.1 hm
    have := List.find?_eq_none.1 (hf.2 hp) x hx
    exact this (by simp [isId, he])
  | some i =>
    obtain ⟨hi, h1, h2⟩ := hf.1 i hp
    unfold hasN at h
    rw [h1] at h
    cases h
theorem put_has {es : List Nd} {n : Nd} (h : hasN n.id es = true) : ∃ i, ∃ hi : i < es.length, es[i].id = n.id ∧ putN es n = es.set i n ∧ findN n.id es = es[i] ∧ es.findIdx? (isId n.id) = some i := by
  obtain ⟨i, hi, h1, h2, h3⟩ := has_idx h
  exact ⟨i, hi, h3, by unfold putN; rw [h1], h2, h1⟩
theorem put_hasnt {es : List Nd} {n : Nd} (h : hasN n.id es = false) : putN es n = es ++ [n] := by
  unfold putN
  rw [(hasnt_idx h).1]
theorem ids_put_has {es : List Nd} {n : Nd} (h : hasN n.id es = true) : ids (putN es n) = ids es := by
  obtain ⟨i, hi, h1, h2, _⟩ := put_has h
  rw [h2, ids_set hi h1]
theorem ids_put_hasnt {es : List Nd} {n : Nd} (h : hasN n.id es = false) : ids (putN es n) = ids es ++ [n.id] := by
  rw [put_hasnt h]
  simp [ids]
theorem put_len (es : List Nd) (n : Nd) : (putN es n).length ≤ es.length + 1 := by
  cases h : hasN n.id es with
  | true => obtain ⟨i, hi, h1, h2, _⟩ := put_has h; rw [h2]; simp
  | false => rw [put_hasnt h]; simp
theorem put_nodup {es : List Nd} {n : Nd} (h : (ids es).Nodup) : (ids (putN es n)).Nodup := by
  cases hh : hasN n.id es with
  | true => rw [ids_put_has hh]; exact h
  | false =>
    rw [ids_put_hasnt hh, List.nodup_append]
    refine ⟨h, by simp, ?_⟩
    intro a ha b hb
    rw [List.mem_singleton.1 hb]
    exact fun e => (hasnt_idx hh).2 (e ▸ ha)
theorem undo_do {es : List Nd} (x : TOp) : undoE (doE es x) (doR es x) = es := by
  unfold undoE doE
  cases hm : (doR es x).made with
  | false => simp
  | true =>
    have hid := nextP_id (es := es) (x := x) hm
    generalize hn : (nextP es x (findN x.node es) (hasN x.node es)).1 = n at hid
    simp only [if_true]
    have hhad : (doR es x).had = hasN x.node es := rfl
    have hwas : (doR es x).was = findN x.node es := rfl
    have hop : (doR es x).op.node = x.node := rfl
    rw [hhad, hwas, hop, ← hid]
    cases hh : hasN n.id es with
    | true =>
      simp only [if_true]
      obtain ⟨i, hi, h1, h2, h3, h4⟩ := put_has hh
      have h5 : (es.set i n).findIdx? (isId es[i].id) = some i := by rw [idx_ids, ids_set hi h1, ← idx_ids, h1, h4]
      rw [h2, h3]
      unfold putN
      rw [h5]
      simp
    | false =>
      simp only [Bool.false_eq_true, if_false]
      rw [put_hasnt hh]
      unfold delN
      rw [List.findIdx?_append, (hasnt_idx hh).1]
      simp [isId, List.eraseIdx_append_of_length_le]

def foldE (L : List TOp) : List Nd := L.foldl doE []
theorem foldE_snoc (L : List TOp) (x : TOp) : foldE (L ++ [x]) = doE (foldE L) x := by simp [foldE]
theorem doE_nodup {es : List Nd} (x : TOp) (h : (ids es).Nodup) : (ids (doE es x)).Nodup := by
  unfold doE
  split
  · exact put_nodup h
  · exact h
theorem doE_len (es : List Nd) (x : TOp) : (doE es x).length ≤ es.length + 1 := by
  unfold doE
  split
  · exact put_len _ _
  · omega
theorem foldl_nodup (L : List TOp) : ∀ es : List Nd, (ids es).Nodup → (ids (L.foldl doE es)).Nodup := by
  induction L with
  | nil => exact fun es h => h
  | cons x L ih => exact fun es h => ih _ (doE_nodup x h)
theorem foldl_len (L : List TOp) : ∀ es : List Nd, (L.foldl doE es).length ≤ es.length + L.length := by
  induction L with
  | nil => intro es; simp
  | cons x L ih => intro es; have h1 := ih (doE es x); have h2 := doE_len es x; simp only [List.foldl_cons, List.length_cons]; omega
theorem foldE_nodup (L : List TOp) : (ids (foldE L)).Nodup := foldl_nodup L [] List.Pairwise.nil
theorem foldE_len (L : List TOp) : (foldE L).length ≤ L.length := by have := foldl_len L []; simpa [foldE] using this
theorem foldE_take {L : List TOp} {k : Nat} (hk : k < L.length) : foldE (L.take (k + 1)) = doE (foldE (L.take k)) L[k] := by
  rw [List.take_succ_eq_append_getElem hk, foldE_snoc]

/-- the log of operations: each with what its node was ahead of it -/
def recsFrom (es : List Nd) : List TOp → List Rec
  | [] => []
  | x :: l => doR es x :: recsFrom (doE es x) l
def recsOf (L : List TOp) : List Rec := recsFrom [] L
theorem recsFrom_len (L : List TOp) : ∀ es, (recsFrom es L).length = L.length := by
  induction L with
  | nil => intro es; rfl
  | cons x L ih => intro es; simp [recsFrom, ih]
theorem recsFrom_at (L : List TOp) : ∀ (es : List Nd) (k : Nat) (hk : k < L.length) (hk' : k < (recsFrom es L).length), (recsFrom es L)[k] = doR ((L.take k).foldl doE es) L[k] := by
  induction L with
  | nil => intro es k hk; simp at hk
  | cons x L ih =>
    intro es k hk hk'
    cases k with
    | zero => rfl
    | succ k => exact ih (doE es x) k (by simpa using hk) (by simpa [recsFrom] using hk')
theorem recsOf_len (L : List TOp) : (recsOf L).length = L.length := recsFrom_len L []
theorem recsOf_at (L : List TOp) (k : Nat) (hk : k < L.length) : (recsOf L)[k]'(by rw [recsOf_len]; exact hk) = doR (foldE (L.take k)) L[k] := recsFrom_at L [] k hk _
theorem recsFrom_take (L : List TOp) : ∀ (es : List Nd) (k : Nat), (recsFrom es L).take k = recsFrom es (L.take k) := by
  induction L with
  | nil => intro es k; simp [recsFrom]
  | cons x L ih =>
    intro es k
    cases k with
    | zero => rfl
    | succ k => simp [recsFrom, ih]
theorem recsOf_take (L : List TOp) (k : Nat) : (recsOf L).take k = recsOf (L.take k) := recsFrom_take L [] k

/-! ### the order of stamps -/
theorem cmpI_neg {a b : Int} : cmpI a b < 0 ↔ a < b := by unfold cmpI; split <;> (try split) <;> constructor <;> intro h <;> omega
theorem cmpI_zero {a b : Int} : cmpI a b = 0 ↔ a = b := by unfold cmpI; split <;> (try split) <;> constructor <;> intro h <;> omega
theorem less_iff {a b : St} : lessS a b = true ↔ (a.1 < b.1 ∨ (a.1 = b.1 ∧ a.2 < b.2)) := by unfold lessS; simp
theorem cmpS_neg {a b : St} : cmpS a b < 0 ↔ lessS a b = true := by
  rw [less_iff]
  unfold cmpS
  by_cases h : cmpI a.1 b.1 = 0
  · rw [if_neg (by simpa using h), cmpI_neg]
    have := cmpI_zero.1 h
    omega
  · rw [if_pos h, cmpI_neg]
    have : a.1 ≠ b.1 := fun e => h (cmpI_zero.2 e)
    omega
theorem cmpS_zero {a b : St} : cmpS a b = 0 ↔ a = b := by
  unfold cmpS
  by_cases h : cmpI a.1 b.1 = 0
  · rw [if_neg (by simpa using h), cmpI_zero]
    have := cmpI_zero.1 h
    exact ⟨fun h2 => Prod.ext this h2, fun e => by rw [e]⟩
  · rw [if_pos h]
    exact ⟨fun e => absurd e h, fun e => by rw [e]; exact cmpI_zero.2 rfl⟩
theorem less_irrefl (a : St) : lessS a a = false := by unfold lessS; simp
theorem less_trans {a b c : St} (h : lessS a b = true) (k : lessS b c = true) : lessS a c = true := by rw [less_iff] at *; omega
theorem less_asymm {a b : St} (h : lessS a b = true) : lessS b a = false := by
  cases hb : lessS b a with
  | false => rfl
  | true => have := less_trans h hb; rw [less_irrefl] at this; cases this
theorem less_total {a b : St} (h : lessS a b = false) (hne : a ≠ b) : lessS b a = true := by
  rw [less_iff]
  have h1 : ¬ (lessS a b = true) := by rw [h]; simp
  rw [less_iff] at h1
  have h2 : ¬ (a.1 = b.1 ∧ a.2 = b.2) := fun ⟨e1, e2⟩ => hne (Prod.ext e1 e2)
  omega
def Sorted (L : List TOp) : Prop := L.Pairwise fun a b => lessS a.st b.st = true
/-- where a stamp stands, whether it is there, the operations with one more -/
def atO (L : List TOp) (s : St) : Nat := (L.takeWhile fun x => lessS x.st s).length
def hasO (L : List TOp) (s : St) : Bool := decide (∃ ha : atO L s < L.length, L[atO L s].st = s)
def addO (L : List TOp) (x : TOp) : List TOp := L.take (atO L x.st) ++ x :: L.drop (atO L x.st)
def codeO (L : List TOp) (x : TOp) : Int := if rightS x.st then (if hasO L x.st then 24 else if L.length ≥ 400 then 40 else 0) else 20
def insO (L : List TOp) (x : TOp) : List TOp := if codeO L x = 0 then addO L x else L
theorem takeWhile_len {α : Type} (p : α → Bool) : ∀ (l : List α) (a : Nat), a ≤ l.length → (∀ j (hj : j < l.length), j < a → p l[j] = true) → (∀ j (hj : j < l.length), a ≤ j → p l[j] = false) → (l.takeWhile p).length = a
  | [], a, h, _, _ => by simp at h; simp [h]
  | x :: l, 0, _, _, h2 => by
    have := h2 0 (by simp) (Nat.le_refl _)
    simp at this
    simp [this]
  | x :: l, a + 1, h, h1, h2 => by
    have h0 := h1 0 (by simp) (by omega)
    simp at h0
    rw [List.takeWhile_cons, h0]
    simp
    exact takeWhile_len p l a (by simpa using h) (fun j hj hlt => by have := h1 (j + 1) (by simpa using hj) (by omega); simpa using this) (fun j hj hle => by have := h2 (j + 1) (by simpa using hj) (by omega); simpa using this)
theorem takeWhile_at {α : Type} (p : α → Bool) : ∀ (l : List α), (l.takeWhile p).length ≤ l.length ∧ (∀ j (hj : j < l.length), j < (l.takeWhile p).length → p l[j] = true) ∧ (∀ h : (l.takeWhile p).length < l.length, p l[(l.takeWhile p).length] = false)
  | [] => ⟨by simp, fun j hj => by simp at hj, fun h => by simp at h⟩
  | x :: l => by
    obtain ⟨h1, h2, h3⟩ := takeWhile_at p l
    cases hx : p x with
    | false => simp [List.takeWhile_cons, hx]
    | true =>
      simp only [List.takeWhile_cons, hx, if_true, List.length_cons]
      refine ⟨by omega, fun j hj hlt => ?_, fun h => h3 (by omega)⟩
      cases j with
      | zero => exact hx
      | succ j => exact h2 j (by simpa using hj) (by omega)
theorem atO_le (L : List TOp) (s : St) : atO L s ≤ L.length := (takeWhile_at _ L).1
theorem atO_lt {L : List TOp} {s : St} {j : Nat} (hj : j < L.length) (h : j < atO L s) : lessS L[j].st s = true := (takeWhile_at (fun x : TOp => lessS x.st s) L).2.1 j hj h
theorem Sorted.at_ {L : List TOp} (h : Sorted L) {i j : Nat} (hi : i < L.length) (hj : j < L.length) (hij : i < j) : lessS L[i].st L[j].st = true := List.pairwise_iff_getElem.1 h i j hi hj hij
theorem atO_ge {L : List TOp} (h : Sorted L) {s : St} {j : Nat} (hj : j < L.length) (hle : atO L s ≤ j) : lessS L[j].st s = false := by
  have h0 := (takeWhile_at (fun x : TOp => lessS x.st s) L).2.2 (by show atO L s < L.length; omega)
  have h0' : lessS (L[atO L s]'(by omega)).st s = false := h0
  rcases Nat.lt_or_ge (atO L s) j with hlt | hge
  · cases hc : lessS L[j].st s with
    | false => rfl
    | true => rw [less_trans (h.at_ (by omega) hj hlt) hc] at h0'; cases h0'
  · have : atO L s = j := by omega
    subst this
    exact h0'
theorem hasO_iff {L : List TOp} (h : Sorted L) {s : St} : hasO L s = true ↔ ∃ x ∈ L, x.st = s := by
  unfold hasO
  rw [decide_eq_true_iff]
  constructor
  · rintro ⟨ha, he⟩
    exact ⟨_, List.getElem_mem ha, he⟩
  · rintro ⟨x, hx, he⟩
    obtain ⟨j, hj, rfl⟩ := List.getElem_of_mem hx
    have h1 : ¬ j < atO L s := fun hlt => by have := atO_lt hj hlt; rw [he, less_irrefl] at this; cases this
    rcases Nat.lt_or_ge (atO L s) j with hlt | hge
    · have h2 := h.at_ (i := atO L s) (by omega) hj hlt
      rw [he] at h2
      rw [atO_ge h (by omega) (Nat.le_refl _)] at h2
      cases h2
    · have : atO L s = j := by omega
      subst this
      exact ⟨hj, he⟩
theorem addO_len (L : List TOp) (x : TOp) : (addO L x).length = L.length + 1 := by have := atO_le L x.st; simp [addO]; omega
theorem addO_sorted {L : List TOp} (h : Sorted L) {x : TOp} (hn : hasO L x.st = false) : Sorted (addO L x) := by
  have hno : ∀ y ∈ L, y.st ≠ x.st := fun y hy e => by
    have := (hasO_iff h).2 ⟨y, hy, e⟩
    rw [hn] at this; cases this
  unfold addO Sorted
  have hsplit : L = L.take (atO L x.st) ++ L.drop (atO L x.st) := (List.take_append_drop _ _).symm
  have hp : (L.take (atO L x.st) ++ L.drop (atO L x.st)).Pairwise fun a b => lessS a.st b.st = true := by rw [← hsplit]; exact h
  rw [List.pairwise_append] at hp ⊢
  obtain ⟨p1, p2, p3⟩ := hp
  have hlow : ∀ a ∈ L.take (atO L x.st), lessS a.st x.st = true := fun a ha => by
    obtain ⟨j, hj, rfl⟩ := List.getElem_of_mem ha
    simp only [List.length_take] at hj
    rw [List.getElem_take]
    exact atO_lt (by omega) (by omega)
  have hhigh : ∀ b ∈ L.drop (atO L x.st), lessS x.st b.st = true := fun b hb => by
    have hbL := List.mem_of_mem_drop hb
    obtain ⟨j, hj, rfl⟩ := List.getElem_of_mem hb
    simp only [List.length_drop] at hj
    rw [List.getElem_drop] at hbL ⊢
    exact less_total (atO_ge h (by omega) (by omega)) (hno _ hbL)
  refine ⟨p1, List.pairwise_cons.2 ⟨hhigh, p2⟩, fun a ha b hb => ?_⟩
  rcases List.mem_cons.1 hb with rfl | hb
  · exact hlow a ha
  · exact p3 a ha b hb
theorem codeO_zero {L : List TOp} {x : TOp} : codeO L x = 0 ↔ rightS x.st = true ∧ hasO L x.st = false ∧ L.length < 400 := by
  unfold codeO
  cases rightS x.st <;> cases hasO L x.st <;> simp
theorem insO_sorted {L : List TOp} (h : Sorted L) (x : TOp) : Sorted (insO L x) := by
  unfold insO
  split
  · next hc => exact addO_sorted h (codeO_zero.1 hc).2.1
  · exact h
theorem addO_take (L : List TOp) (x : TOp) : (addO L x).take (atO L x.st) = L.take (atO L x.st) := by
  unfold addO
  have := atO_le L x.st
  rw [List.take_append_of_le_length (by rw [List.length_take]; omega), List.take_take, Nat.min_self]
end Go.Proofs.Ytaglomhmnoldlaa
