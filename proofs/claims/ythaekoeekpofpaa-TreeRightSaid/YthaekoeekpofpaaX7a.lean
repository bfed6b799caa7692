/- What operations of right nodes make is a tree: plain words. -/
import Derived.Test.YthaekoeekpofpaaX6
namespace Go.Proofs.Ythaekoeekpofpaa

/-- the root, or the trash -/
def Rt (s : St) : Prop := s = (0, 0) ∨ s = (0, 1)
/-- so many steps up it is the root or the trash -/
def Reach (xs : List Nd) : Nat → St → Prop
  | 0, s => Rt s
  | k + 1, s => hasN s xs = true ∧ Reach xs k (findN s xs).par
def pathN (xs : List Nd) : Nat → St → List St
  | 0, s => [s]
  | k + 1, s => s :: pathN xs k (findN s xs).par
structure Tree (xs : List Nd) : Prop where
  sorted : xs.Pairwise fun a b => lessS a.id b.id = true
  own : ∀ x ∈ xs, rightS x.id = true
  par : ∀ x ∈ xs, Rt x.par ∨ (hasN x.par xs = true ∧ (findN x.par xs).dir = true)
  reach : ∀ x ∈ xs, ∃ k, Reach xs k x.id

theorem lessS_iff {a b : St} : lessS a b = true ↔ a.1 < b.1 ∨ (a.1 = b.1 ∧ a.2 < b.2) := by
  unfold lessS; simp
theorem lessS_irr (a : St) : lessS a a = false := by
  unfold lessS; simp
theorem lessS_trans {a b c : St} (h : lessS a b = true) (k : lessS b c = true) : lessS a c = true := by
  rw [lessS_iff] at *; omega
theorem lessS_total {a b : St} (h : lessS a b = false) (hne : b ≠ a) : lessS b a = true := by
  have h1 : ¬ (lessS a b = true) := by rw [h]; decide
  rw [lessS_iff] at *
  have : ¬ (b.1 = a.1 ∧ b.2 = a.2) := fun ⟨e1, e2⟩ => hne (Prod.ext e1 e2)
  omega
theorem Tree.uniq {xs : List Nd} (h : Tree xs) : Uniq xs := by
  unfold Uniq
  rw [List.Nodup, List.pairwise_map]
  exact h.sorted.imp fun {a b} hab e => by rw [e, lessS_irr] at hab; cases hab
theorem Tree.no_rt {xs : List Nd} (h : Tree xs) {s : St} (hs : Rt s) : hasN s xs = false := by
  cases hh : hasN s xs with
  | false => rfl
  | true =>
    obtain ⟨h1, h2⟩ := has_mem hh
    have := h.own _ h1
    rw [h2] at this
    unfold rightS at this
    rcases hs with rfl | rfl <;> simp at this
theorem Reach.uniq {xs : List Nd} (h : Tree xs) : ∀ {j k : Nat} {s : St}, Reach xs j s → Reach xs k s → j = k
  | 0, 0, _, _, _ => rfl
  | 0, k + 1, s, h0, h1 => by have := h.no_rt h0; rw [h1.1] at this; cases this
  | j + 1, 0, s, h0, h1 => by have := h.no_rt h1; rw [h0.1] at this; cases this
  | j + 1, k + 1, s, h0, h1 => by rw [Reach.uniq h h0.2 h1.2]
theorem pathN_len (xs : List Nd) : ∀ (k : Nat) (s : St), (pathN xs k s).length = k + 1
  | 0, _ => rfl
  | k + 1, s => by rw [pathN, List.length_cons, pathN_len xs k]
theorem pathN_head (xs : List Nd) (k : Nat) (s : St) : (pathN xs k s)[0]? = some s := by
  cases k <;> rfl
theorem pathN_last {xs : List Nd} : ∀ {k : Nat} {s : St}, Reach xs k s → ∃ r, Rt r ∧ (pathN xs k s)[k]? = some r
  | 0, s, h => ⟨s, h, rfl⟩
  | k + 1, s, h => by
    obtain ⟨r, h1, h2⟩ := pathN_last h.2
    exact ⟨r, h1, by rw [pathN, List.getElem?_cons_succ]; exact h2⟩
theorem chain_path {xs : List Nd} (h : Tree xs) : ∀ (k : Nat) (f : Nat) (out : List St) (s : St), Reach xs k s → (∀ o ∈ out, ∃ j, k < j ∧ Reach xs j o) → left xs out < f → (0 < k ∨ out ≠ []) → chainG xs f out s = out ++ pathN xs k s
  | k, 0, out, s, _, _, hf, _ => by omega
  | 0, f + 1, out, s, hr, ho, hf, hne => by
    have hn : s ∉ out := fun hm => by
      obtain ⟨j, hj, hrj⟩ := ho s hm
      have := Reach.uniq h hrj hr
      omega
    rw [chainG, if_neg hn, h.no_rt hr]
    rcases hne with h0 | h0
    · omega
    · simp [h0, pathN]
  | k + 1, f + 1, out, s, hr, ho, hf, _ => by
    have hn : s ∉ out := fun hm => by
      obtain ⟨j, hj, hrj⟩ := ho s hm
      have := Reach.uniq h hrj hr
      omega
    rw [chainG, if_neg hn, hr.1, if_pos rfl]
    have := left_lt hr.1 hn
    rw [chain_path h k f (out ++ [s]) _ hr.2 (fun o hm => by
      rcases List.mem_append.1 hm with hm | hm
      · obtain ⟨j, hj, hrj⟩ := ho o hm
        exact ⟨j, by omega, hrj⟩
      · rw [List.mem_singleton.1 hm]
        exact ⟨k + 1, by omega, hr⟩) (by omega) (.inr (by simp))]
    rw [pathN, List.append_assoc]; rfl
theorem chainN_path {xs : List Nd} (h : Tree xs) {k : Nat} {s : St} (hr : Reach xs k s) (hk : 0 < k) : chainN xs s = pathN xs k s := by
  unfold chainN
  rw [chain_path h k _ [] s hr (fun o hm => by cases hm) (Nat.lt_succ_of_le (left_nil xs)) (.inl hk)]
  rfl
/-- what the chain of a node is -/
theorem Tree.chain {xs : List Nd} (h : Tree xs) {x : Nd} (hx : x ∈ xs) : ∃ n r, (chainN xs x.id).length = n + 2 ∧ (chainN xs x.id)[0]? = some x.id ∧ (chainN xs x.id)[1]? = some x.par ∧ (chainN xs x.id)[n + 1]? = some r ∧ Rt r := by
  obtain ⟨hf, hh⟩ := h.uniq.find hx
  obtain ⟨k, hr⟩ := h.reach x hx
  cases k with
  | zero => have := h.no_rt hr; rw [hh] at this; cases this
  | succ n =>
    rw [chainN_path h hr (Nat.succ_pos n)]
    obtain ⟨r, h1, h2⟩ := pathN_last hr
    refine ⟨n, r, pathN_len _ _ _, pathN_head _ _ _, ?_, h2, h1⟩
    rw [pathN, List.getElem?_cons_succ, pathN_head, hf]

/-! ### what a Do does -/
theorem find?_grow {p : Nd → Bool} {xs : List Nd} {y : Nd} (hy : p y = false) : (growN xs y).find? p = xs.find? p := by
  have h : (List.take (atN xs y.id) xs ++ List.drop (atN xs y.id) xs).find? p = xs.find? p := by rw [List.take_append_drop]
  rw [← h]
  unfold growN
  simp only [List.find?_append, List.find?_cons, hy]
theorem find?_set {p : Nd → Bool} : ∀ {xs : List Nd} {k : Nat} {z : Nd} (hk : k < xs.length), p xs[k] = false → p z = false → (xs.set k z).find? p = xs.find? p
  | [], k, _, hk, _, _ => by simp at hk
  | x :: xs, 0, z, _, h1, h2 => by
    have h1 : p x = false := h1
    simp [h1, h2]
  | x :: xs, k + 1, z, hk, h1, h2 => by
    have := find?_set (xs := xs) (k := k) (z := z) (by simpa using hk) (by simpa using h1) h2
    simp [List.find?_cons, this]
theorem find_grow {xs : List Nd} {y : Nd} {s : St} (h : s ≠ y.id) : findN s (growN xs y) = findN s xs ∧ hasN s (growN xs y) = hasN s xs := by
  unfold findN hasN
  rw [find?_grow (by unfold isId; exact decide_eq_false (fun e => h e.symm))]
  exact ⟨rfl, rfl⟩
theorem find_set {xs : List Nd} {k : Nat} {z : Nd} (hk : k < xs.length) (hz : z.id = xs[k].id) {s : St} (h : s ≠ z.id) : findN s (xs.set k z) = findN s xs ∧ hasN s (xs.set k z) = hasN s xs := by
  unfold findN hasN
  rw [find?_set hk (by unfold isId; exact decide_eq_false (fun e => h (by rw [hz, e]))) (by unfold isId; exact decide_eq_false (fun e => h e.symm))]
  exact ⟨rfl, rfl⟩
theorem Reach.grow {xs : List Nd} {y : Nd} (hn : hasN y.id xs = false) : ∀ {k : Nat} {s : St}, Reach xs k s → Reach (growN xs y) k s
  | 0, _, h => h
  | k + 1, s, h => by
    have hne : s ≠ y.id := fun e => by have := h.1; rw [e, hn] at this; cases this
    obtain ⟨h1, h2⟩ := find_grow (xs := xs) hne
    exact ⟨by rw [h2]; exact h.1, by rw [h1]; exact Reach.grow hn h.2⟩
theorem atN_le (xs : List Nd) (s : St) : atN xs s ≤ xs.length := by
  unfold atN
  cases h : xs.findIdx? (fun z => lessS s z.id) with
  | none => exact Nat.le_refl _
  | some k => obtain ⟨hk, _⟩ := List.findIdx?_eq_some_iff_getElem.1 h; exact Nat.le_of_lt hk
theorem atN_before {xs : List Nd} {s : St} {z : Nd} (h : z ∈ xs.take (atN xs s)) : lessS s z.id = false := by
  obtain ⟨j, hj, rfl⟩ := List.mem_iff_getElem.1 h
  rw [List.length_take] at hj
  rw [List.getElem_take]
  unfold atN at hj
  cases hf : xs.findIdx? (fun z => lessS s z.id) with
  | none =>
    have := List.findIdx?_eq_none_iff.1 hf xs[j] (List.getElem_mem _)
    exact this
  | some k =>
    rw [hf] at hj
    obtain ⟨hk, _, h3⟩ := List.findIdx?_eq_some_iff_getElem.1 hf
    have := h3 j (by simp at hj; omega)
    simpa using this
theorem atN_at {xs : List Nd} {s : St} {z : Nd} {l : List Nd} (h : xs.drop (atN xs s) = z :: l) : lessS s z.id = true := by
  unfold atN at h
  cases hf : xs.findIdx? (fun z => lessS s z.id) with
  | none => rw [hf] at h; simp at h
  | some k =>
    rw [hf] at h
    obtain ⟨hk, h2, _⟩ := List.findIdx?_eq_some_iff_getElem.1 hf
    simp only [Option.getD_some] at h
    rw [List.drop_eq_getElem_cons hk] at h
    have := (List.cons.inj h).1
    rw [← this]; exact h2
theorem sorted_grow {xs : List Nd} {y : Nd} (h : xs.Pairwise fun a b => lessS a.id b.id = true) (hn : ∀ z ∈ xs, z.id ≠ y.id) : (growN xs y).Pairwise fun a b => lessS a.id b.id = true := by
  unfold growN
  have hsp : (xs.take (atN xs y.id) ++ xs.drop (atN xs y.id)).Pairwise fun a b => lessS a.id b.id = true := by rw [List.take_append_drop]; exact h
  rw [List.pairwise_append] at hsp
  obtain ⟨h1, h2, h3⟩ := hsp
  rw [List.pairwise_append, List.pairwise_cons]
  have hlow : ∀ a ∈ xs.take (atN xs y.id), lessS a.id y.id = true := fun a ha => lessS_total (atN_before ha) (hn a (List.mem_of_mem_take ha))
  have hup : ∀ b ∈ xs.drop (atN xs y.id), lessS y.id b.id = true := fun b hb => by
    cases hd : xs.drop (atN xs y.id) with
    | nil => rw [hd] at hb; cases hb
    | cons z l =>
      have hz := atN_at hd
      rw [hd] at hb h2
      rcases List.mem_cons.1 hb with rfl | hb
      · exact hz
      · exact lessS_trans hz ((List.pairwise_cons.1 h2).1 b hb)
  refine ⟨h1, ⟨hup, h2⟩, fun a ha b hb => ?_⟩
  rcases List.mem_cons.1 hb with rfl | hb
  · exact hlow a ha
  · exact h3 a ha b hb
theorem mem_grow_cases {xs : List Nd} {y z : Nd} (h : z ∈ growN xs y) : z = y ∨ z ∈ xs := by
  unfold growN at h
  rcases List.mem_append.1 h with h | h
  · exact .inr (List.mem_of_mem_take h)
  · rcases List.mem_cons.1 h with h | h
    · exact .inl h
    · exact .inr (List.mem_of_mem_drop h)
theorem has_of_mem {xs : List Nd} {z : Nd} (h : z ∈ xs) : hasN z.id xs = true := by
  unfold hasN
  rw [List.find?_isSome]
  exact ⟨z, h, by simp [isId]⟩
theorem no_of_has {xs : List Nd} {s : St} (h : s ∉ xs.map Nd.id) : hasN s xs = false := by
  cases hh : hasN s xs with
  | false => rfl
  | true =>
    obtain ⟨h1, h2⟩ := has_mem hh
    exact absurd (List.mem_map.2 ⟨_, h1, h2⟩) h
theorem takes_cases {xs : List Nd} {s : St} (h : takesB s xs = true) : s = (0, 0) ∨ (hasN s xs = true ∧ (findN s xs).dir = true) := by
  unfold takesB at h
  simp at h
  exact h
theorem Tree.reachOf {xs : List Nd} (h : Tree xs) {s : St} (hs : Rt s ∨ hasN s xs = true) : ∃ k, Reach xs k s := by
  rcases hs with hs | hs
  · exact ⟨0, hs⟩
  · obtain ⟨h1, h2⟩ := has_mem hs
    obtain ⟨k, hk⟩ := h.reach _ h1
    exact ⟨k, h2 ▸ hk⟩
theorem Tree.grow {xs : List Nd} (h : Tree xs) {y : Nd} (hy : rightS y.id = true) (hn : y.id ∉ xs.map Nd.id) (hp : Rt y.par ∨ (hasN y.par xs = true ∧ (findN y.par xs).dir = true)) : Tree (growN xs y) := by
  have hno := no_of_has hn
  have hid : ∀ z ∈ xs, z.id ≠ y.id := fun z hz e => hn (List.mem_map.2 ⟨z, hz, e⟩)
  have up : ∀ {s : St}, Rt s ∨ (hasN s xs = true ∧ (findN s xs).dir = true) → Rt s ∨ (hasN s (growN xs y) = true ∧ (findN s (growN xs y)).dir = true) := fun {s} hs => by
    rcases hs with hs | ⟨h1, h2⟩
    · exact .inl hs
    · have hne : s ≠ y.id := fun e => by rw [e, hno] at h1; cases h1
      obtain ⟨e1, e2⟩ := find_grow (xs := xs) hne
      exact .inr ⟨by rw [e2]; exact h1, by rw [e1]; exact h2⟩
  have hs := sorted_grow h.sorted hid
  have huq : Uniq (growN xs y) := by
    unfold Uniq
    rw [List.Nodup, List.pairwise_map]
    exact hs.imp fun {a b} hab e => by rw [e, lessS_irr] at hab; cases hab
  have hyin : y ∈ growN xs y := by unfold growN; simp
  refine ⟨hs, fun z hz => ?_, fun z hz => ?_, fun z hz => ?_⟩
  · rcases mem_grow_cases hz with rfl | hz
    · exact hy
    · exact h.own z hz
  · rcases mem_grow_cases hz with rfl | hz
    · exact up hp
    · exact up (h.par z hz)
  · rcases mem_grow_cases hz with rfl | hz
    · obtain ⟨f1, f2⟩ := huq.find hyin
      obtain ⟨k, hk⟩ := h.reachOf (hp.imp id And.left)
      exact ⟨k + 1, f2, by rw [f1]; exact Reach.grow hno hk⟩
    · obtain ⟨k, hk⟩ := h.reach z hz
      exact ⟨k, Reach.grow hno hk⟩
/-- a node's turn: its parent one that it may have -/
theorem Tree.turn {xs : List Nd} (h : Tree xs) {k : Nat} (hk : k < xs.length) {z : Nd} (hz : z.id = xs[k].id) (hd : z.dir = xs[k].dir)
    (hp : Rt z.par ∨ (hasN z.par xs = true ∧ (findN z.par xs).dir = true))
    (hr : ∃ j, Reach (xs.set k z) j z.par) : Tree (xs.set k z) := by
  have hmem : xs[k] ∈ xs := List.getElem_mem hk
  have hzin : z ∈ xs.set k z := List.mem_set hk _
  have hids : (xs.set k z).map Nd.id = xs.map Nd.id := map_id_set xs k z hk hz
  have hs : (xs.set k z).Pairwise fun a b => lessS a.id b.id = true := by
    have h1 : ((xs.map Nd.id).Pairwise fun a b => lessS a b = true) := by rw [List.pairwise_map]; exact h.sorted
    rw [← hids, List.pairwise_map] at h1
    exact h1
  have huq : Uniq (xs.set k z) := by unfold Uniq; rw [hids]; exact h.uniq
  obtain ⟨fz1, fz2⟩ := huq.find hzin
  obtain ⟨fx1, fx2⟩ := h.uniq.find hmem
  have hmc : ∀ a ∈ xs.set k z, a = z ∨ a ∈ xs := fun a ha => by
    rcases List.mem_or_eq_of_mem_set ha with h1 | h1
    · exact .inr h1
    · exact .inl h1
  have up : ∀ {s : St}, Rt s ∨ (hasN s xs = true ∧ (findN s xs).dir = true) → Rt s ∨ (hasN s (xs.set k z) = true ∧ (findN s (xs.set k z)).dir = true) := fun {s} hs => by
    rcases hs with hs | ⟨h1, h2⟩
    · exact .inl hs
    · by_cases e : s = z.id
      · subst e
        refine .inr ⟨fz2, ?_⟩
        rw [fz1, hd]
        rw [hz, fx1] at h2
        exact h2
      · obtain ⟨e1, e2⟩ := find_set hk hz e
        exact .inr ⟨by rw [e2]; exact h1, by rw [e1]; exact h2⟩
  have lift : ∀ (j : Nat) (s : St), Reach xs j s → ∃ j', Reach (xs.set k z) j' s := by
    intro j
    induction j with
    | zero => exact fun s hs => ⟨0, hs⟩
    | succ j ih =>
      intro s hs
      by_cases e : s = z.id
      · subst e
        obtain ⟨j', hj'⟩ := hr
        exact ⟨j' + 1, fz2, by rw [fz1]; exact hj'⟩
      · obtain ⟨e1, e2⟩ := find_set hk hz e
        obtain ⟨j', hj'⟩ := ih _ hs.2
        exact ⟨j' + 1, by rw [e2]; exact hs.1, by rw [e1]; exact hj'⟩
  refine ⟨hs, fun a ha => ?_, fun a ha => ?_, fun a ha => ?_⟩
  · rcases hmc a ha with rfl | ha
    · rw [hz]; exact h.own _ hmem
    · exact h.own a ha
  · rcases hmc a ha with rfl | ha
    · exact up hp
    · exact up (h.par a ha)
  · rcases hmc a ha with rfl | ha
    · obtain ⟨j, hj⟩ := h.reach _ hmem
      rw [hz]; exact lift j _ hj
    · obtain ⟨j, hj⟩ := h.reach a ha
      exact lift j _ hj
/-- a way up that does not pass a node stays -/
theorem Reach.past {xs : List Nd} {k : Nat} (hk : k < xs.length) {z : Nd} (hz : z.id = xs[k].id) : ∀ {j : Nat} {s : St}, Reach xs j s → z.id ∉ pathN xs j s → Reach (xs.set k z) j s
  | 0, _, h, _ => h
  | j + 1, s, h, hn => by
    rw [pathN, List.mem_cons, not_or] at hn
    obtain ⟨e1, e2⟩ := find_set hk hz (fun e => hn.1 e.symm)
    exact ⟨by rw [e2]; exact h.1, by rw [e1]; exact Reach.past hk hz h.2 hn.2⟩
/-- all parents as they were -/
theorem Reach.keep {xs : List Nd} (hu : Uniq xs) {k : Nat} (hk : k < xs.length) {z : Nd} (hz : z.id = xs[k].id) (hp : z.par = xs[k].par) : ∀ {j : Nat} {s : St}, Reach xs j s → Reach (xs.set k z) j s
  | 0, _, h => h
  | j + 1, s, h => by
    by_cases e : s = z.id
    · subst e
      have huq : Uniq (xs.set k z) := by unfold Uniq; rw [map_id_set xs k z hk hz]; exact hu
      obtain ⟨f1, f2⟩ := huq.find (List.mem_set hk z)
      obtain ⟨g1, _⟩ := hu.find (List.getElem_mem hk)
      refine ⟨f2, ?_⟩
      have := Reach.keep hu hk hz hp h.2
      rw [hz, g1, ← hp] at this
      rw [f1]; exact this
    · obtain ⟨e1, e2⟩ := find_set hk hz e
      exact ⟨by rw [e2]; exact h.1, by rw [e1]; exact Reach.keep hu hk hz hp h.2⟩
theorem Tree.do_ {xs : List Nd} (h : Tree xs) {x : TOp} (hx : rightS x.node = true) : Tree (doN xs x) := by
  rcases doN_cases xs x with e | ⟨y, hy, _, hn, hyd, e⟩ | ⟨k, hk, hid, hk1, ht, e⟩
  · rw [e]; exact h
  · rw [e]
    refine h.grow (by rw [hy]; exact hx) (by rw [hy]; exact hn) ?_
    rw [hyd]
    show Rt (if takesB x.par xs then x.par else (0, 1)) ∨ _
    cases htk : takesB x.par xs with
    | false => exact .inl (.inr rfl)
    | true =>
      rcases takes_cases htk with h0 | h0
      · exact .inl (.inl (by simpa using h0))
      · exact .inr (by simpa using h0)
  · rw [e]
    have hmem : xs[k] ∈ xs := List.getElem_mem hk
    have hpk := h.par _ hmem
    have hzid := turnP_id xs x xs[k]
    have hzd := turnP_dir xs x xs[k]
    by_cases h2 : x.kind = 2
    · have hz : (turnP xs x xs[k]) = ({ xs[k] with par := x.par, nm := x.nm }, takesB x.par xs && !decide (x.node ∈ chainN xs x.par)) := by unfold turnP; rw [if_pos h2]
      rw [hz] at ht hzid hzd ⊢
      simp only [Bool.and_eq_true, Bool.not_eq_true', decide_eq_false_iff_not] at ht
      obtain ⟨ht1, ht2⟩ := ht
      have hp : Rt x.par ∨ (hasN x.par xs = true ∧ (findN x.par xs).dir = true) := by
        rcases takes_cases ht1 with h0 | h0
        · exact .inl (.inl h0)
        · exact .inr h0
      refine h.turn hk hzid hzd hp ?_
      obtain ⟨j, hj⟩ := h.reachOf (hp.imp id And.left)
      cases j with
      | zero => exact ⟨0, hj⟩
      | succ j =>
        rw [chainN_path h hj (Nat.succ_pos j)] at ht2
        refine ⟨j + 1, Reach.past hk hzid hj ?_⟩
        rw [hzid, hid]; exact ht2
    · by_cases h3 : x.kind = 3
      · have hz : (turnP xs x xs[k]).1 = { xs[k] with mf := x.mf } := by unfold turnP; rw [if_neg h2, if_pos h3]
        rw [hz] at hzid hzd ⊢
        refine h.turn hk hzid hzd hpk ?_
        obtain ⟨j, hj⟩ := h.reachOf (hpk.imp id And.left)
        exact ⟨j, Reach.keep h.uniq hk hzid rfl hj⟩
      · by_cases h4 : x.kind = 4
        · have hz : (turnP xs x xs[k]).1 = { xs[k] with par := (0, 1) } := by unfold turnP; rw [if_neg h2, if_neg h3, if_pos h4]
          rw [hz] at hzid hzd ⊢
          exact h.turn hk hzid hzd (.inl (.inr rfl)) ⟨0, .inr rfl⟩
        · have : (turnP xs x xs[k]).2 = false := by unfold turnP; rw [if_neg h2, if_neg h3, if_neg h4]
          rw [this] at ht; cases ht
theorem Tree.nil_ : Tree [] := ⟨List.Pairwise.nil, (fun _ h => absurd h List.not_mem_nil), (fun _ h => absurd h List.not_mem_nil), (fun _ h => absurd h List.not_mem_nil)⟩
theorem Tree.fold_ (l : List TOp) (h : ownB l = true) : Tree (foldN l) := by
  have : ∀ (l : List TOp) (xs : List Nd), Tree xs → (∀ x ∈ l, rightS x.node = true) → Tree (l.foldl doN xs) := by
    intro l
    induction l with
    | nil => intro xs h _; exact h
    | cons x l ih => intro xs h hl; exact ih _ (h.do_ (hl x List.mem_cons_self)) (fun y hy => hl y (List.mem_cons_of_mem _ hy))
  exact this l [] Tree.nil_ (by unfold ownB at h; simpa using h)
end Go.Proofs.Ythaekoeekpofpaa
