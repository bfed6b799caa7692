/- Two states and a list of operations, apart in memory; the plain law of picks. -/
import Derived.Test.YtaglomhmnoldlaaL5
namespace Go.Proofs.Ytaglomhmnoldlaa
open Go.RowKit
attribute [local go_sem] bs_size bs_getElem bs_list bs_append

/-- a state's own blocks -/
def Own3 (p m : Nat) (v : Value) (g : Nat) : Prop := g = p ∨ g = m ∨ v.ownBlock = some g
section
variable {w wr w' : World} {p m : Nat} {v v' u : Value} {r r' : Int} {L L' T : List TOp}
theorem Live.own_lt (h : Live w wr p m v r L) {g : Nat} (hg : Own3 p m v g) : w.heap.size ≤ g ∧ g < wr.heap.size := by
  rcases hg with rfl | rfl | hg
  · exact ⟨h.mov.p_ge, h.p_lt⟩
  · exact ⟨h.mov.m_ge, h.m_lt⟩
  · exact h.v_lt g hg
theorem OwnC.heapC {B size n : Nat} {xs : List Value} (h : OwnC wr B size u n xs) (hb : ∀ g, u.ownBlock = some g → w'.heap[g]? = wr.heap[g]?) (hs : wr.heap.size ≤ w'.heap.size) : OwnC w' B size u n xs := by
  refine ⟨h.1, ?_⟩
  rcases h.2 with hn | ⟨g, cap, rfl, hb', hlt, hnc, hcm, hs', hf, hx⟩
  · exact .inl hn
  · have hblk : w'.heap[g]? = wr.heap[g]? := hb g rfl
    have hc : ∀ j, w'.cell? ⟨g, j, none⟩ = wr.cell? ⟨g, j, none⟩ := fun j => World.cell?_of_block (a := ⟨g, j, none⟩) hblk
    have hz : ∀ j, w'.frozen? ⟨g, j, none⟩ = wr.frozen? ⟨g, j, none⟩ := fun j => World.frozen?_of_block (a := ⟨g, j, none⟩) hblk
    exact .inr ⟨g, cap, rfl, hb', Nat.lt_of_lt_of_le hlt hs, hnc, hcm, fun j hj => by rw [hc]; exact hs' j hj, fun j hj => by rw [hz]; exact hf j hj, fun j u hu => by rw [hc]; exact hx j u hu⟩
theorem Live.kept (h : Live w wr p m v r L) (hb : ∀ g, Own3 p m v g → w'.heap[g]? = wr.heap[g]?) (hw : Below w.heap.size w w') (hs : wr.heap.size ≤ w'.heap.size) : Live w w' p m v r L :=
  ⟨⟨⟨⟨(hb p (.inl rfl)).trans h.mov.s3.stt.blk, h.mov.s3.stt.map.heap (hb m (.inr (.inl rfl)))⟩, OwnC.heapC h.mov.s3.log (fun g hg => hb g (.inr (.inr hg))) hs, h.mov.s3.nep, h.mov.s3.nem⟩, h.mov.sorted, h.mov.len, h.mov.p_ge, h.mov.m_ge⟩, hw, h.short⟩
theorem KeepV.own3 (k : KeepV wr w' p m v) {g : Nat} (hlt : g < wr.heap.size) (hn : ¬ Own3 p m v g) : w'.heap[g]? = wr.heap[g]? :=
  k.block g hlt (fun e => hn (.inl e)) (fun e => hn (.inr (.inl e))) (fun e => hn (.inr (.inr e.symm)))
end
/-- two states and a list, apart -/
structure Tri (w wr : World) (p m p2 m2 : Nat) (v v2 : Value) (r : Int) (La : List TOp) (r2 : Int) (Lb : List TOp) (u : Value) (T : List TOp) : Prop where
  a : Live w wr p m v r La
  b : Live w wr p2 m2 v2 r2 Lb
  t : OwnO wr w.heap.size u T
  ts : ShortO T
  ab : ∀ g, Own3 p m v g → ¬ Own3 p2 m2 v2 g
  ua : ∀ g, u.ownBlock = some g → ¬ Own3 p m v g
  ub : ∀ g, u.ownBlock = some g → ¬ Own3 p2 m2 v2 g
section
variable {w wr w' : World} {p m p2 m2 : Nat} {v v2 v' u u' : Value} {r r2 r' : Int} {La Lb L' T T' : List TOp}
theorem Tri.swap (h : Tri w wr p m p2 m2 v v2 r La r2 Lb u T) : Tri w wr p2 m2 p m v2 v r2 Lb r La u T := ⟨h.b, h.a, h.t, h.ts, fun g h1 h2 => h.ab g h2 h1, h.ub, h.ua⟩
theorem Tri.then_ (h : Tri w wr p m p2 m2 v v2 r La r2 Lb u T) (hb : Below wr.heap.size wr w') : Tri w w' p m p2 m2 v v2 r La r2 Lb u T :=
  ⟨h.a.then_ hb, h.b.then_ hb, OwnC.below h.t hb, h.ts, h.ab, h.ua, h.ub⟩
theorem Tri.u_lt (h : Tri w wr p m p2 m2 v v2 r La r2 Lb u T) {g : Nat} (hg : u.ownBlock = some g) : g < wr.heap.size := (OwnC.ge h.t g hg).2
theorem own3_new (ho : ∀ g, v'.ownBlock = some g → v.ownBlock = some g ∨ wr.heap.size ≤ g) {g : Nat} (hg : Own3 p m v' g) : Own3 p m v g ∨ wr.heap.size ≤ g := by
  rcases hg with h | h | h
  · exact .inl (.inl h)
  · exact .inl (.inr (.inl h))
  · rcases ho g h with h1 | h1
    · exact .inl (.inr (.inr h1))
    · exact .inr h1
/-- Insert into the first one -/
theorem tri_ins (x : TOp) (hx : OpS x) (h : Tri w wr p m p2 m2 v v2 r La r2 Lb u T) :
    Calls Try.prog 12 #[.pointer (some ⟨p, 0, none⟩), ov x] wr fun e w' => ∃ v', e = .returned (.int .i64 (codeO La x)) ∧ Tri w w' p m p2 m2 v' v2 (redO r La x) (insO La x) r2 Lb u T := by
  refine (insert_live x hx p m v r La w wr h.a).mono ?_
  rintro e w' ⟨v', rfl, hl, hk, ho⟩
  refine ⟨v', rfl, ⟨hl, h.b.kept (fun g hg => hk.own3 (h.b.own_lt hg).2 (fun h1 => h.ab g h1 hg)) hl.below hk.size, OwnC.heapC h.t (fun g hg => hk.own3 (h.u_lt hg) (h.ua g hg)) hk.size, h.ts, fun g h1 h2 => ?_, fun g hg h1 => ?_, h.ub⟩⟩
  · rcases own3_new ho h1 with h3 | h3
    · exact h.ab g h3 h2
    · have := (h.b.own_lt h2).2; omega
  · rcases own3_new ho h1 with h3 | h3
    · exact h.ua g hg h3
    · have := h.u_lt hg; omega
theorem tri_ins2 (x : TOp) (hx : OpS x) (h : Tri w wr p m p2 m2 v v2 r La r2 Lb u T) :
    Calls Try.prog 12 #[.pointer (some ⟨p2, 0, none⟩), ov x] wr fun e w' => ∃ v', e = .returned (.int .i64 (codeO Lb x)) ∧ Tri w w' p m p2 m2 v v' r La (redO r2 Lb x) (insO Lb x) u T := by
  refine (tri_ins x hx h.swap).mono ?_
  rintro e w' ⟨v', rfl, ht⟩
  exact ⟨v', rfl, ht.swap⟩
/-- the list grows -/
theorem Tri.more (h : Tri w wr p m p2 m2 v v2 r La r2 Lb u T) (ho : OwnO w' w.heap.size u' T') (hs : ShortO T') (hg : wr.grownBy w' u.ownBlock) (hat : u'.ownBlock = u.ownBlock ∨ ∃ N, u'.ownBlock = some N ∧ wr.heap.size ≤ N) : Tri w w' p m p2 m2 v v2 r La r2 Lb u' T' := by
  have hb : Below w.heap.size w w' := h.a.below.grown hg h.a.below.size (fun k hk => (OwnC.ge h.t k hk).1)
  have key : ∀ g, u'.ownBlock = some g → u.ownBlock = some g ∨ wr.heap.size ≤ g := fun g hg => by
    rcases hat with h1 | ⟨N, h1, h2⟩
    · exact .inl (h1.symm.trans hg)
    · rw [hg] at h1; cases h1; exact .inr h2
  refine ⟨h.a.kept (fun g hg' => hg.block g (h.a.own_lt hg').2 (fun e => h.ua g e.symm hg')) hb hg.size, h.b.kept (fun g hg' => hg.block g (h.b.own_lt hg').2 (fun e => h.ub g e.symm hg')) hb hg.size, ho, hs, h.ab, fun g hu h1 => ?_, fun g hu h1 => ?_⟩
  · rcases key g hu with h2 | h2
    · exact h.ua g h2 h1
    · have := (h.a.own_lt h1).2; omega
  · rcases key g hu with h2 | h2
    · exact h.ub g h2 h1
    · have := (h.b.own_lt h1).2; omega
/-- another list, of blocks made behind -/
theorem Tri.anew (h : Tri w wr p m p2 m2 v v2 r La r2 Lb u T) (hb : Below wr.heap.size wr w') (ho : OwnO w' wr.heap.size u' T') (hs : ShortO T') : Tri w w' p m p2 m2 v v2 r La r2 Lb u' T' := by
  have h2 := h.then_ hb
  refine ⟨h2.a, h2.b, OwnC.mono ho h.a.size, hs, h.ab, fun g hu h1 => ?_, fun g hu h1 => ?_⟩
  · have h3 := (OwnC.ge ho g hu).1
    have := (h.a.own_lt h1).2
    omega
  · have h3 := (OwnC.ge ho g hu).1
    have := (h.b.own_lt h1).2
    omega
end

/-! ### plain -/
theorem addO_perm (L : List TOp) (x : TOp) : (addO L x).Perm (L ++ [x]) := by
  unfold addO
  have h1 : (L.take (atO L x.st) ++ x :: L.drop (atO L x.st)).Perm (x :: (L.take (atO L x.st) ++ L.drop (atO L x.st))) := List.perm_middle
  rw [List.take_append_drop] at h1
  exact h1.trans (List.perm_append_singleton x L).symm
theorem sorted_eqO : ∀ {xs ys : List TOp}, Sorted xs → Sorted ys → xs.Perm ys → xs = ys
  | [], ys, _, _, hp => hp.nil_eq
  | a :: r, [], _, _, hp => absurd hp.length_eq (by simp)
  | a :: r, b :: t, hx, hy, hp => by
    have h1 := List.pairwise_cons.1 hx
    have h2 := List.pairwise_cons.1 hy
    have hab : a = b := by
      rcases List.mem_cons.1 (hp.mem_iff.1 List.mem_cons_self) with h | h
      · exact h
      · rcases List.mem_cons.1 (hp.mem_iff.2 List.mem_cons_self) with h' | h'
        · exact h'.symm
        · have e1 := h1.1 b h'
          have e2 := h2.1 a h
          rw [less_asymm e1] at e2; cases e2
    subst hab
    rw [sorted_eqO h1.2 h2.2 (List.Perm.cons_inv hp)]
/-- behind the first loop -/
structure Took (La T : List TOp) : Prop where
  perm : T.Perm La
  right : ∀ x ∈ La, rightS x.st = true
theorem Took.nil_ : Took [] [] := ⟨List.Perm.refl _, fun x hx => by cases hx⟩
theorem Took.take {La T : List TOp} (h : Took La T) {x : TOp} (hc : codeO La x = 0) : Took (insO La x) (T ++ [x]) := by
  unfold insO
  rw [if_pos hc]
  refine ⟨(h.perm.append_right [x]).trans (addO_perm La x).symm, fun y hy => ?_⟩
  have := (addO_perm La x).mem_iff.1 hy
  rcases List.mem_append.1 this with h1 | h1
  · exact h.right y h1
  · rw [List.mem_singleton.1 h1]; exact (codeO_zero.1 hc).1
/-- in the second one -/
structure Left (La Lb T : List TOp) : Prop where
  perm : (T ++ Lb).Perm La
  sa : Sorted La
  sb : Sorted Lb
  right : ∀ x ∈ La, rightS x.st = true
  len : La.length ≤ 400
theorem Left.start {La T : List TOp} (h : Took La T) (hs : Sorted La) (hl : La.length ≤ 400) : Left La [] T := ⟨by rw [List.append_nil]; exact h.perm, hs, List.Pairwise.nil, h.right, hl⟩
theorem Left.len_eq {La Lb T : List TOp} (h : Left La Lb T) : T.length + Lb.length = La.length := by have := h.perm.length_eq; rw [List.length_append] at this; exact this
theorem Left.code {La Lb T : List TOp} (h : Left La Lb T) {k : Nat} (hk : k < T.length) : codeO Lb T[k] = 0 := by
  have hmem : T[k] ∈ La := h.perm.mem_iff.1 (List.mem_append_left _ (List.getElem_mem hk))
  have hl := h.len_eq
  have hll := h.len
  refine codeO_zero.2 ⟨h.right _ hmem, ?_, by omega⟩
  cases hh : hasO Lb T[k].st with
  | false => rfl
  | true =>
    obtain ⟨y, hy, he⟩ := (hasO_iff h.sb).1 hh
    have hnd : ((T ++ Lb).map (·.st)).Nodup := by
      refine (h.perm.map _).nodup_iff.2 ?_
      rw [List.Nodup, List.pairwise_map]
      exact h.sa.imp fun {a b} hab e => by rw [e, less_irrefl] at hab; cases hab
    rw [List.map_append, List.nodup_append] at hnd
    exact absurd he.symm (hnd.2.2 _ (List.mem_map_of_mem (List.getElem_mem hk)) _ (List.mem_map_of_mem hy))
theorem Left.next {La Lb T : List TOp} (h : Left La Lb T) {k : Nat} (hk : k < T.length) : Left La (insO Lb T[k]) (T.take k ++ T.drop (k + 1)) := by
  have hc := h.code hk
  refine ⟨?_, h.sa, insO_sorted h.sb _, h.right, h.len⟩
  unfold insO
  rw [if_pos hc]
  have h1 : T.Perm (T[k] :: (T.take k ++ T.drop (k + 1))) := by
    have : T = T.take k ++ T[k] :: T.drop (k + 1) := by
      rw [← List.drop_eq_getElem_cons hk, List.take_append_drop]
    rw (occs := .pos [1]) [this]
    exact List.perm_middle
  refine List.Perm.trans ?_ h.perm
  refine ((addO_perm Lb T[k]).append_left _).trans ?_
  rw [← List.append_assoc]
  refine (List.perm_append_singleton _ _).trans ?_
  rw [← List.cons_append]
  exact h1.symm.append_right Lb
theorem Left.end_ {La Lb : List TOp} (h : Left La Lb []) : Lb = La := sorted_eqO h.sb h.sa h.perm
/-- which one is picked -/
theorem pick_range (x : Int) (n : Nat) (hn : 0 < n) : 0 ≤ Int.tmod (Int.tmod x n + n) n ∧ Int.tmod (Int.tmod x n + n) n < n ∧ -(n : Int) < Int.tmod x n ∧ Int.tmod x n < n := by
  have h1 : -(n : Int) < Int.tmod x n := by
    have := Int.lt_tmod_of_pos x (b := (n : Int)) (by omega)
    exact this
  have h2 : Int.tmod x n < n := Int.tmod_lt_of_pos x (by omega)
  refine ⟨?_, Int.tmod_lt_of_pos _ (by omega), h1, h2⟩
  exact Int.tmod_nonneg _ (by omega)
end Go.Proofs.Ytaglomhmnoldlaa
