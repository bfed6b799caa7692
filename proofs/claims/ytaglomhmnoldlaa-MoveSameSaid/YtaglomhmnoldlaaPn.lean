/- The document's fold is the fold of the log's nodes, in the order of their stamps: plain words. -/
import Derived.Test.YtaglomhmnoldlaaRf
namespace Go.Proofs.Ytaglomhmnoldlaa

/-! ### below and chain -/
theorem chainG_out (xs : List Nd) : ∀ (f : Nat) (out : List St) (id o : St), o ∈ out → o ∈ chainG xs f out id
  | 0, out, id, o, h => h
  | f + 1, out, id, o, h => by
    unfold chainG
    by_cases h1 : id ∈ out
    · rw [if_pos h1]; exact h
    · rw [if_neg h1]
      cases hasN id xs with
      | true => exact chainG_out xs f _ _ o (List.mem_append_left _ h)
      | false =>
        have : out ≠ [] := fun e => by rw [e] at h; cases h
        rw [if_neg (by simp), if_neg this]
        exact List.mem_append_left _ h
theorem belowP_shut (xs : List Nd) (out : List St) (nd : St) (hn : nd ∉ out) (hc : ∀ o ∈ out, (findN o xs).par ∈ out) : ∀ (f : Nat) (id : St), id ∈ out → belowP xs f id nd = false
  | 0, _, _ => rfl
  | f + 1, id, h => by
    unfold belowP
    have hne : ¬ id = nd := fun e => by rw [e] at h; exact hn h
    rw [if_neg hne]
    cases hasN id xs with
    | true => exact belowP_shut xs out nd hn hc f _ (hc id h)
    | false => rfl
theorem below_chain {xs : List Nd} {nd : St} (hnd : hasN nd xs = true) : ∀ (f f' : Nat) (out : List St) (id : St), left xs out < f → left xs out < f' → nd ∉ out → (∀ o ∈ out, (findN o xs).par ∈ out ∨ (findN o xs).par = id) →
    belowP xs f' id nd = decide (nd ∈ chainG xs f out id)
  | 0, f', out, id, h, _, _, _ => by omega
  | f + 1, 0, out, id, _, h, _, _ => by omega
  | f + 1, f' + 1, out, id, h1, h2, hn, hc => by
    unfold chainG
    by_cases h : id ∈ out
    · rw [if_pos h, decide_eq_false hn]
      exact belowP_shut xs out nd hn (fun o ho => by rcases hc o ho with h3 | h3; exact h3; rw [h3]; exact h) _ _ h
    · rw [if_neg h]
      unfold belowP
      cases hh : hasN id xs with
      | false =>
        have hne : ¬ id = nd := fun e => by rw [e, hnd] at hh; cases hh
        rw [if_neg hne, if_neg (by simp), if_neg (by simp)]
        by_cases ho : out = []
        · rw [if_pos ho]; rfl
        · rw [if_neg ho]
          symm
          rw [decide_eq_false_iff_not, List.mem_append, List.mem_singleton, not_or]
          exact ⟨hn, fun e => hne e.symm⟩
      | true =>
        simp only [if_true]
        have hl := left_lt hh h
        by_cases e : id = nd
        · subst e
          rw [if_pos rfl]
          symm
          rw [decide_eq_true_iff]
          exact chainG_out _ _ _ _ _ (by simp)
        · rw [if_neg e]
          exact below_chain hnd f f' (out ++ [id]) _ (by omega) (by omega) (by rw [List.mem_append, List.mem_singleton, not_or]; exact ⟨hn, fun e2 => e e2.symm⟩) (fun o ho => by
            rcases List.mem_append.1 ho with ho | ho
            · rcases hc o ho with h3 | h3
              · exact .inl (List.mem_append_left _ h3)
              · exact .inl (by rw [h3]; simp)
            · rw [List.mem_singleton.1 ho]; exact .inr rfl)
theorem below_chainN {xs : List Nd} {nd : St} (hnd : hasN nd xs = true) (s : St) : belowP xs (xs.length + 1) s nd = decide (nd ∈ chainN xs s) := by
  have := left_nil xs
  exact below_chain hnd _ _ [] s (by omega) (by omega) (by simp) (by simp)

/-! ### one list and another one of the same nodes -/
theorem find_of_mem {xs : List Nd} (hu : (ids xs).Nodup) {x : Nd} (hx : x ∈ xs) : xs.find? (isId x.id) = some x := by
  induction xs with
  | nil => cases hx
  | cons a r ih =>
    unfold ids at hu ih
    rw [List.map_cons, List.nodup_cons] at hu
    rcases List.mem_cons.1 hx with rfl | hx
    · simp [isId]
    · have hne : a.id ≠ x.id := fun e => hu.1 (e ▸ List.mem_map_of_mem hx)
      rw [List.find?_cons_of_neg (by simp [isId, hne])]
      exact ih hu.2 hx
theorem find_perm {xs es : List Nd} (hp : xs.Perm es) (hu : (ids es).Nodup) (s : St) : xs.find? (isId s) = es.find? (isId s) := by
  have hu' : (ids xs).Nodup := (hp.map Nd.id).nodup_iff.2 hu
  cases h : es.find? (isId s) with
  | none =>
    rw [List.find?_eq_none] at h ⊢
    exact fun x hx => h x (hp.mem_iff.1 hx)
  | some y =>
    have hy := List.mem_of_find?_eq_some h
    have hs : y.id = s := by have := List.find?_some h; simpa [isId] using this
    have := find_of_mem hu' (hp.mem_iff.2 hy)
    rw [hs] at this
    exact this
theorem findN_perm {xs es : List Nd} (hp : xs.Perm es) (hu : (ids es).Nodup) (s : St) : findN s xs = findN s es ∧ hasN s xs = hasN s es := by
  unfold findN hasN
  rw [find_perm hp hu s]
  exact ⟨rfl, rfl⟩
theorem takesB_perm {xs es : List Nd} (hp : xs.Perm es) (hu : (ids es).Nodup) (s : St) : takesB s xs = takesB s es := by
  unfold takesB
  rw [(findN_perm hp hu s).1, (findN_perm hp hu s).2]
theorem belowP_perm {xs es : List Nd} (hp : xs.Perm es) (hu : (ids es).Nodup) (nd : St) : ∀ (f : Nat) (s : St), belowP xs f s nd = belowP es f s nd
  | 0, _ => rfl
  | f + 1, s => by
    unfold belowP
    rw [(findN_perm hp hu s).1, (findN_perm hp hu s).2, belowP_perm hp hu nd f]
theorem nextP_perm {xs es : List Nd} (hp : xs.Perm es) (hu : (ids es).Nodup) (x : TOp) (y : Nd) (b : Bool) : nextP xs x y b = nextP es x y b := by
  unfold nextP
  rw [takesB_perm hp hu, hp.length_eq, belowP_perm hp hu]
theorem put_perm_filter {es : List Nd} (n : Nd) (hu : (ids es).Nodup) : (putN es n).Perm (n :: es.filter fun e => !decide (e.id = n.id)) := by
  induction es with
  | nil => exact List.Perm.refl _
  | cons a r ih =>
    unfold ids at hu ih
    rw [List.map_cons, List.nodup_cons] at hu
    by_cases h : a.id = n.id
    · have hput : putN (a :: r) n = n :: r := by
        unfold putN
        simp [List.findIdx?_cons, isId, h]
      have hf : (a :: r).filter (fun e => !decide (e.id = n.id)) = r := by
        rw [List.filter_cons_of_neg (by simp [h])]
        rw [List.filter_eq_self]
        intro e he
        have : e.id ≠ n.id := fun e2 => hu.1 (h ▸ e2 ▸ List.mem_map_of_mem he)
        simp [this]
      rw [hput, hf]
    · have hput : putN (a :: r) n = a :: putN r n := by
        unfold putN
        have hi : isId n.id a = false := by simp [isId, h]
        rw [List.findIdx?_cons, hi]
        cases r.findIdx? (isId n.id) with
        | none => rfl
        | some i => rfl
      rw [hput, List.filter_cons_of_pos (by simp [h])]
      exact ((ih hu.2).cons a).trans (List.Perm.swap _ _ _)
theorem doE_perm {xs es : List Nd} (hp : xs.Perm es) (hu : (ids es).Nodup) (x : TOp) : (doE xs x).Perm (doE es x) := by
  have hu' : (ids xs).Nodup := (hp.map Nd.id).nodup_iff.2 hu
  unfold doE doR
  simp only
  rw [(findN_perm hp hu _).1, (findN_perm hp hu _).2, nextP_perm hp hu]
  split
  · exact (put_perm_filter _ hu').trans (((hp.filter _).cons _).trans (put_perm_filter _ hu).symm)
  · exact hp

/-! ### the document's Do does the same -/
theorem growN_perm (xs : List Nd) (y : Nd) : (growN xs y).Perm (xs ++ [y]) := by
  unfold growN
  have h1 : (xs.take (atN xs y.id) ++ y :: xs.drop (atN xs y.id)).Perm (y :: (xs.take (atN xs y.id) ++ xs.drop (atN xs y.id))) := List.perm_middle
  rw [List.take_append_drop] at h1
  exact h1.trans (List.perm_append_singleton y xs).symm
theorem doN_doE (xs : List Nd) (x : TOp) : (doN xs x).Perm (doE xs x) := by
  cases hh : hasN x.node xs with
  | false =>
    have h1 := (hasnt_idx hh).1
    unfold doN doE doR
    rw [h1]
    simp only [hh]
    by_cases hk : x.kind = 1
    · rw [if_pos hk]
      unfold nextP
      rw [if_pos hk]
      simp only [Bool.not_false, if_true]
      rw [put_hasnt (n := ⟨x.node, x.dir, _, x.nm, x.mf⟩) hh]
      exact growN_perm _ _
    · rw [if_neg hk]
      unfold nextP
      rw [if_neg hk]
      by_cases h2 : x.kind = 2
      · simp [h2]
      · by_cases h3 : x.kind = 3
        · simp [h3]
        · by_cases h4 : x.kind = 4 <;> simp [h2, h3, h4]
  | true =>
    obtain ⟨i, hi, h1, h2, h3⟩ := has_idx hh
    have hb := below_chainN hh x.par
    have hput : ∀ n : Nd, n.id = x.node → putN xs n = xs.set i n := fun n e => by unfold putN; rw [e, h1]
    have hg : xs.getD i nd0 = xs[i] := by simp [hi]
    unfold doN doE doR
    rw [h1]
    simp only [hh, h2, hg]
    by_cases hk : x.kind = 1
    · rw [if_pos hk]
      unfold nextP
      rw [if_pos hk]
      simp
    · rw [if_neg hk]
      unfold nextP turnN
      rw [if_neg hk]
      by_cases k2 : x.kind = 2
      · rw [if_pos k2, if_pos k2, hb]
        cases hc : (takesB x.par xs && !decide (x.node ∈ chainN xs x.par)) with
        | true =>
          simp only [Bool.true_and, hc, if_true]
          exact List.Perm.of_eq (by symm; apply hput; exact h3)
        | false => simp [hc]
      · rw [if_neg k2, if_neg k2]
        by_cases k3 : x.kind = 3
        · rw [if_pos k3, if_pos k3]
          cases hc : xs[i].dir with
          | true => simp
          | false =>
            simp only [Bool.true_and, Bool.not_false, if_true, Bool.false_eq_true, if_false]
            exact List.Perm.of_eq (by symm; apply hput; exact h3)
        · rw [if_neg k3, if_neg k3]
          by_cases k4 : x.kind = 4
          · rw [if_pos k4, if_pos k4]
            simp only [if_true]
            exact List.Perm.of_eq (by symm; apply hput; exact h3)
          · rw [if_neg k4, if_neg k4]
            simp
theorem fold_perm (L : List TOp) : ∀ (xs es : List Nd), xs.Perm es → (ids es).Nodup → (L.foldl doN xs).Perm (L.foldl doE es) := by
  induction L with
  | nil => exact fun xs es h _ => h
  | cons x L ih =>
    intro xs es h hu
    exact ih _ _ ((doN_doE xs x).trans (doE_perm h hu x)) (doE_nodup x hu)
theorem foldN_perm (L : List TOp) : (foldN L).Perm (foldE L) := fold_perm L [] [] (List.Perm.refl _) List.Pairwise.nil

/-! ### it is sorted -/
theorem atN_before {xs : List Nd} {s : St} {z : Nd} (h : z ∈ xs.take (atN xs s)) : lessS s z.id = false := by
  obtain ⟨j, hj, rfl⟩ := List.mem_iff_getElem.1 h
  rw [List.length_take] at hj
  rw [List.getElem_take]
  unfold atN at hj
  cases hf : xs.findIdx? (fun z => lessS s z.id) with
  | none =>
    have := List.findIdx?_eq_none_iff.1 hf xs[j] (List.getElem_mem _)
    exact this
  | some k =>
    rw [hf] at hj
    obtain ⟨hk, _, h3⟩ := List.findIdx?_eq_some_iff_getElem.1 hf
    have := h3 j (by simp at hj; omega)
    simpa using this
theorem atN_next {xs : List Nd} {s : St} {z : Nd} {l : List Nd} (h : xs.drop (atN xs s) = z :: l) : lessS s z.id = true := by
  unfold atN at h
  cases hf : xs.findIdx? (fun z => lessS s z.id) with
  | none => rw [hf] at h; simp at h
  | some k =>
    rw [hf] at h
    obtain ⟨hk, h2, _⟩ := List.findIdx?_eq_some_iff_getElem.1 hf
    simp only [Option.getD_some] at h
    rw [List.drop_eq_getElem_cons hk] at h
    have := (List.cons.inj h).1
    rw [← this]; exact h2
def SortedN (xs : List Nd) : Prop := xs.Pairwise fun a b => lessS a.id b.id = true
theorem sorted_grow {xs : List Nd} {y : Nd} (h : SortedN xs) (hn : ∀ z ∈ xs, z.id ≠ y.id) : SortedN (growN xs y) := by
  unfold growN SortedN at *
  have hsp : (xs.take (atN xs y.id) ++ xs.drop (atN xs y.id)).Pairwise fun a b => lessS a.id b.id = true := by rw [List.take_append_drop]; exact h
  rw [List.pairwise_append] at hsp
  obtain ⟨h1, h2, h3⟩ := hsp
  rw [List.pairwise_append, List.pairwise_cons]
  have hlow : ∀ a ∈ xs.take (atN xs y.id), lessS a.id y.id = true := fun a ha => less_total (atN_before ha) (fun e => hn a (List.mem_of_mem_take ha) e.symm)
  have hup : ∀ b ∈ xs.drop (atN xs y.id), lessS y.id b.id = true := fun b hb => by
    cases hd : xs.drop (atN xs y.id) with
    | nil => rw [hd] at hb; cases hb
    | cons z l =>
      have hz := atN_next hd
      rw [hd] at hb h2
      rcases List.mem_cons.1 hb with rfl | hb
      · exact hz
      · exact less_trans hz ((List.pairwise_cons.1 h2).1 b hb)
  refine ⟨h1, ⟨hup, h2⟩, fun a ha b hb => ?_⟩
  rcases List.mem_cons.1 hb with rfl | hb
  · exact hlow a ha
  · exact h3 a ha b hb
theorem sorted_ids {xs ys : List Nd} (h : ids xs = ids ys) (hs : SortedN xs) : SortedN ys := by
  unfold SortedN at *
  have h1 : (ids xs).Pairwise fun a b => lessS a b = true := by unfold ids; rw [List.pairwise_map]; exact hs
  rw [h] at h1
  unfold ids at h1
  rw [List.pairwise_map] at h1
  exact h1
theorem sorted_do {xs : List Nd} (h : SortedN xs) (x : TOp) : SortedN (doN xs x) := by
  unfold doN
  cases hf : xs.findIdx? (isId x.node) with
  | none =>
    simp only
    split
    · refine sorted_grow h (fun z hz e => ?_)
      have := List.findIdx?_eq_none_iff.1 hf z hz
      simp [isId] at this
      exact this e
    · exact h
  | some i =>
    simp only
    obtain ⟨hi, h1, _⟩ := List.findIdx?_eq_some_iff_getElem.1 hf
    have hid : xs[i].id = x.node := of_decide_eq_true h1
    have hg : xs.getD i nd0 = xs[i] := by simp [hi]
    split
    · exact h
    · split
      · next y hy =>
        have : y.id = xs[i].id := by
          rw [hg] at hy
          unfold turnN at hy
          split at hy
          · split at hy
            · cases hy; rfl
            · cases hy
          · split at hy
            · split at hy
              · cases hy
              · cases hy; rfl
            · split at hy
              · cases hy; rfl
              · cases hy
        exact sorted_ids (ids_set hi this.symm).symm h
      · exact h
theorem foldN_sorted (L : List TOp) : SortedN (foldN L) := by
  have : ∀ (L : List TOp) (xs : List Nd), SortedN xs → SortedN (L.foldl doN xs) := by
    intro L
    induction L with
    | nil => exact fun xs h => h
    | cons x L ih => exact fun xs h => ih _ (sorted_do h x)
  exact this L [] List.Pairwise.nil
theorem sorted_eq : ∀ {xs ys : List Nd}, SortedN xs → SortedN ys → xs.Perm ys → xs = ys
  | [], ys, _, _, hp => hp.nil_eq
  | a :: r, [], _, _, hp => absurd hp.length_eq (by simp)
  | a :: r, b :: t, hx, hy, hp => by
    have h1 := List.pairwise_cons.1 hx
    have h2 := List.pairwise_cons.1 hy
    have hab : a = b := by
      rcases List.mem_cons.1 (hp.mem_iff.1 List.mem_cons_self) with h | h
      · exact h
      · rcases List.mem_cons.1 (hp.mem_iff.2 List.mem_cons_self) with h' | h'
        · exact h'.symm
        · have e1 := h1.1 b h'
          have e2 := h2.1 a h
          rw [less_asymm e1] at e2; cases e2
    subst hab
    rw [sorted_eq h1.2 h2.2 (List.Perm.cons_inv hp)]
/-- what Nodes gives is the document's fold -/
theorem sorted_fold {L : List TOp} {s : List Nd} (hp : s.Perm (foldE L)) (hs : s.Pairwise fun a b => lessS b.id a.id = false) : s = foldN L := by
  have hu : (ids s).Nodup := (hp.map Nd.id).nodup_iff.2 (foldE_nodup L)
  refine sorted_eq ?_ (foldN_sorted L) (hp.trans (foldN_perm L).symm)
  unfold ids at hu
  rw [List.Nodup, List.pairwise_map] at hu
  exact (hs.and hu).imp (fun {a b} h => less_total h.1 (fun e => h.2 e.symm))
end Go.Proofs.Ytaglomhmnoldlaa
