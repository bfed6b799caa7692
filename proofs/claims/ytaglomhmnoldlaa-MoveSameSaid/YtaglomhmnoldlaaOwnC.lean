/- A slice that the call owns, said cell by cell (whatever its block's mark); append onto it. No program in sight. -/
import Derived.Test.YtaglomhmnoldlaaWords
import Derived.Deep.Upon
import Derived.Deep.MidRow
import Derived.Laws.IdiomStrings
namespace Go.Proofs.Ytaglomhmnoldlaa
open Go.RowKit

structure OwnC (w : World) (B size : Nat) (v : Value) (n : Nat) (xs : List Value) : Prop where
  len : xs.length = n * size
  is_ : (v = .slice none 0 0 ∧ n = 0) ∨ ∃ g cap, v = .slice (some ⟨g, 0, none⟩) n cap ∧ B ≤ g ∧ g < w.heap.size ∧ n ≤ cap ∧ cap ≤ maxLen ∧ (∀ j, j < cap * size → (w.cell? ⟨g, j, none⟩).isSome = true) ∧ (∀ j, j < cap * size → w.frozen? ⟨g, j, none⟩ = false) ∧ (∀ j u, xs[j]? = some u → w.cell? ⟨g, j, none⟩ = some u)

section
variable {w w' : World} {B size n : Nat} {v : Value} {xs : List Value}
theorem OwnC.nil_ (w : World) (B size : Nat) : OwnC w B size (.slice none 0 0) 0 [] := ⟨by simp, .inl ⟨rfl, rfl⟩⟩
theorem OwnC.of_row {e : TypeId} (h : w.ownsRow B e size v n xs) : OwnC w B size v n xs := by
  refine ⟨h.1, ?_⟩
  rcases h.2 with hn | ⟨g, cap, cur, rfl, hb, hg, hnc, hcm, hcs, ht⟩
  · exact .inl hn
  · refine .inr ⟨g, cap, rfl, hb, ?_, hnc, hcm, fun j hj => ?_, fun j _ => ?_, fun j u hu => ?_⟩
    · rcases Nat.lt_or_ge g w.heap.size with hlt | hge
      · exact hlt
      · rw [Array.getElem?_eq_none hge] at hg; cases hg
    · rw [cell_of_row w g j cur e (0, 0) hg, Array.getElem?_eq_getElem (by omega)]; rfl
    · simp [World.frozen?, hg]
    · rw [cell_of_row w g j cur e (0, 0) hg, ← Array.getElem?_toList]
      rw [← ht, List.getElem?_take] at hu
      split at hu
      · exact hu
      · cases hu
theorem OwnC.kept {row : Option Nat} (h : OwnC w B size v n xs) (hg : w.grownBy w' row) (hne : v.ownBlock = none ∨ v.ownBlock ≠ row) : OwnC w' B size v n xs := by
  refine ⟨h.1, ?_⟩
  rcases h.2 with hn | ⟨g, cap, rfl, hb, hlt, hnc, hcm, hs, hf, hx⟩
  · exact .inl hn
  · have hblk : w'.heap[g]? = w.heap[g]? := hg.block g hlt (by simpa [Value.ownBlock] using hne)
    have hc : ∀ j, w'.cell? ⟨g, j, none⟩ = w.cell? ⟨g, j, none⟩ := fun j => World.cell?_of_block (a := ⟨g, j, none⟩) hblk
    have hz : ∀ j, w'.frozen? ⟨g, j, none⟩ = w.frozen? ⟨g, j, none⟩ := fun j => World.frozen?_of_block (a := ⟨g, j, none⟩) hblk
    exact .inr ⟨g, cap, rfl, hb, Nat.lt_of_lt_of_le hlt hg.size, hnc, hcm, fun j hj => by rw [hc]; exact hs j hj, fun j hj => by rw [hz]; exact hf j hj, fun j u hu => by rw [hc]; exact hx j u hu⟩
theorem OwnC.below (h : OwnC w B size v n xs) (hb : Below w.heap.size w w') : OwnC w' B size v n xs :=
  h.kept (gb_of_below hb none) (by
    rcases h.2 with ⟨rfl, _⟩ | ⟨g, cap, rfl, _⟩
    · exact .inl rfl
    · exact .inr (by simp [Value.ownBlock]))
theorem OwnC.alloc (h : OwnC w B size v n xs) (o : Obj) : OwnC (w.alloc o) B size v n xs := h.below ((Below.refl _ _).alloc (Nat.le_refl _) _)
theorem OwnC.drew (h : OwnC w B size v n xs) : OwnC w.drew B size v n xs := h.below (Below.refl _ _).drew
theorem OwnC.mono {B' : Nat} (h : OwnC w B size v n xs) (hB : B' ≤ B) : OwnC w B' size v n xs := by
  refine ⟨h.1, ?_⟩
  rcases h.2 with hn | ⟨g, cap, e, hb, rest⟩
  · exact .inl hn
  · exact .inr ⟨g, cap, e, Nat.le_trans hB hb, rest⟩
theorem OwnC.ge (h : OwnC w B size v n xs) : ∀ k, v.ownBlock = some k → B ≤ k ∧ k < w.heap.size := by
  intro k hk
  rcases h.2 with ⟨rfl, _⟩ | ⟨g, cap, rfl, hb, hlt, _⟩
  · simp [Value.ownBlock] at hk
  · simp [Value.ownBlock] at hk; subst hk; exact ⟨hb, hlt⟩
/-- what it looks like where it holds something -/
theorem OwnC.form (h : OwnC w B size v n xs) (hn : 0 < n) : ∃ g cap, v = .slice (some ⟨g, 0, none⟩) n cap ∧ B ≤ g ∧ g < w.heap.size ∧ n ≤ cap ∧ cap ≤ maxLen ∧ (∀ j u, xs[j]? = some u → w.cell? ⟨g, j, none⟩ = some u) ∧ (∀ j, j < cap * size → w.frozen? ⟨g, j, none⟩ = false) := by
  rcases h.2 with ⟨_, h0⟩ | ⟨g, cap, hv, hb, hlt, hnc, hcm, hs, hf, hx⟩
  · omega
  · exact ⟨g, cap, hv, hb, hlt, hnc, hcm, hx, hf⟩
/-- an address that is as it was: whatever grows by this value's own row -/
theorem gb_own {a : World} {B0 : Nat} (hb : Below B0 a w) (hB0 : B0 ≤ B) (hs : B0 ≤ w.heap.size) (h : OwnC w B size v n xs) (hg : w.grownBy w' v.ownBlock) : Below B0 a w' :=
  hb.grown hg hs (fun k hk => Nat.le_trans hB0 (h.ge k hk).1)
end

section
variable {P : Program} (w : World)
theorem size_setCellsC (b : Nat) : ∀ (vs : List Value) (o : Nat) (w : World), (w.setCells b o vs).heap.size = w.heap.size
  | [], _, _ => rfl
  | v :: r, o, w => by rw [World.setCells, size_setCellsC b r]; simp [World.setCell]
theorem tape_setCellsC (b : Nat) : ∀ (vs : List Value) (o : Nat) (w : World), (w.setCells b o vs).tape = w.tape
  | [], _, _ => rfl
  | v :: r, o, w => by rw [World.setCells, tape_setCellsC b r]; rfl
/-- THE LAW. -/
theorem run_append_C (t tx ty e : TypeId) (i : TypeInfo) (z : Value) (size : Nat) (ht : P.underlying t = some (.slice e)) (hi : P.info? e = some i) (hz : i.zero = some z) (hsize : i.size = size) (hzs : z.cells.size = size) (hsz : 0 < size)
    (B : Nat) (v : Value) (n : Nat) (xs : List Value) (hown : OwnC w B size v n xs) (x : Value) (m : Nat) (news : List Value) (hsrc : Src P size tx x m news w)
    (h63 : n + m ≤ maxLen) (hbytes : (n + m) * i.bytes ≤ 140737488355328) (hB : B ≤ w.heap.size) :
    ∃ v' w', (Builtin.append_ #[t, tx] ty #[v, x]).run P w = .ok v' w' ∧ OwnC w' B size v' (n + m) (xs ++ news) ∧ w.grownBy w' v.ownBlock ∧ (v'.ownBlock = v.ownBlock ∨ v'.ownBlock = some w.heap.size) := by
  subst hsize
  have hsmall : n + m ≤ 9223372036854775807 := by simp only [maxLen] at h63; omega
  have hlen : (xs ++ news).length = (n + m) * i.size := by rw [List.length_append, hown.1, hsrc.newsLen, Nat.add_mul]
  have grown : ∀ (old : Nat) (row : Option Nat),
      OwnC (w.drew.alloc (.cells ((xs ++ news).toArray ++ Builtin.zeroCells z.cells (grownCap w (n + m) old e - (n + m))) e)) B i.size
        (.slice (some ⟨w.heap.size, 0, none⟩) (n + m) (grownCap w (n + m) old e)) (n + m) (xs ++ news) ∧
      w.grownBy (w.drew.alloc (.cells ((xs ++ news).toArray ++ Builtin.zeroCells z.cells (grownCap w (n + m) old e - (n + m))) e)) row := by
    intro old row
    have hge := grownCap_ge w (n + m) old e
    have hcm : grownCap w (n + m) old e ≤ maxLen := grownCap_le_maxLen w (n + m) old e h63
    refine ⟨OwnC.of_row (e := e) ⟨hlen, .inr ⟨w.heap.size, _, _, rfl, hB, heap_alloc_new w.drew _, hge, hcm, ?_, ?_⟩⟩, ⟨rfl, rfl, rfl, by simp, fun k hk _ => Below.heap_alloc w.drew _ k hk⟩⟩
    · simp only [Array.size_append, List.size_toArray, size_zeroCells, hzs, hlen, ← Nat.add_mul]
      congr 1
      omega
    · simp only [Array.toList_append]
      rw [← hlen]
      exact List.take_left
  rcases hown.2 with ⟨rfl, rfl⟩ | ⟨g, cap, rfl, hbg, hlt, hnc, hcm, hs, hf, hx⟩
  · obtain rfl : xs = [] := List.eq_nil_of_length_eq_zero (by simpa using hown.1)
    by_cases hm : m = 0
    · subst hm
      obtain rfl : news = [] := List.eq_nil_of_length_eq_zero (by simpa using hsrc.newsLen)
      exact ⟨_, _, run_append_nothing w t tx ty e i ht hi none 0 0 (Nat.le_refl _) x hsrc, by simpa using hown, gb_refl _ _, .inl rfl⟩
    · have hr := run_append_grow_src (P := P) w t tx ty e i z ht hi hz none 0 0 [] (run_firstCells_none w.drew i.size 0 0 0) x m news hsrc (by omega) (by omega) (growslice_fits (by omega) hbytes)
      have hgr := grown 0 (Value.ownBlock (.slice none 0 0))
      exact ⟨_, _, hr, hgr.1, hgr.2, .inr rfl⟩
  · by_cases hroom : n + m ≤ cap
    · have hl : n * i.size + news.length ≤ cap * i.size := by rw [hsrc.newsLen, ← Nat.add_mul]; exact Nat.mul_le_mul_right _ hroom
      have hr := run_append_room_src (P := P) w t tx ty e i ht hi g 0 n cap x m news hsrc hroom (fun j hj => by rw [Nat.zero_add]; exact hs _ (by omega)) (fun j hj => by rw [Nat.zero_add]; exact hf _ (by omega))
      rw [Nat.zero_add] at hr
      refine ⟨_, _, hr, ⟨hlen, .inr ⟨g, cap, rfl, hbg, ?_, hroom, hcm, fun j hj => ?_, fun j hj => ?_, fun j u hu => ?_⟩⟩, ⟨?_, ?_, ?_, ?_, fun k hk hne => ?_⟩, .inl rfl⟩
      · rw [size_setCellsC]; exact hlt
      · exact World.isSome_setCells g news _ w _ (hs j hj)
      · rw [World.frozen?_setCells]; exact hf j hj
      · rcases Nat.lt_or_ge j (n * i.size) with hj | hj
        · rw [World.cell?_setCells_out _ _ _ _ _ (fun _ _ => .inl hj)]
          rw [List.getElem?_append_left (by rw [hown.1]; exact hj)] at hu
          exact hx j u hu
        · rw [List.getElem?_append_right (by rw [hown.1]; exact hj), hown.1] at hu
          obtain ⟨hj', rfl⟩ := List.getElem?_eq_some_iff.1 hu
          have := World.cell?_setCells_in g news (n * i.size) w (fun j hj => hs _ (by omega)) (j - n * i.size) hj'
          rwa [show n * i.size + (j - n * i.size) = j from by omega] at this
      · exact World.os_setCells _ _ _ _
      · exact tape_setCellsC _ _ _ _
      · exact World.output_setCells _ _ _ _
      · rw [size_setCellsC]; exact Nat.le_refl _
      · exact World.heap_setCells_other w g _ news hk (fun e => hne (by rw [e]; rfl))
    · have hold : (Builtin.firstCells i.size n (.slice (some ⟨g, 0, none⟩) n cap)).run P w.drew = .ok xs.toArray w.drew :=
        run_firstCells_some w.drew i.size n ⟨g, 0, none⟩ n cap xs hown.1 (fun j u hu => by
          have := hx j u hu
          have hadd : (Addr.mk g 0 none).add j = ⟨g, j, none⟩ := by unfold Addr.add; split <;> simp_all
          rw [hadd]; exact this)
      have hr := run_append_grow_src (P := P) w t tx ty e i z ht hi hz (some ⟨g, 0, none⟩) n cap xs hold x m news hsrc (by omega) (by omega) (growslice_fits (by omega) hbytes)
      have hgr := grown cap (Value.ownBlock (.slice (some ⟨g, 0, none⟩) n cap))
      exact ⟨_, _, hr, hgr.1, hgr.2, .inr rfl⟩

theorem wp_append_C {o : Oper} {a : Act} {K : Act → World → Prop} {Q : Exit → Act → World → Prop} (s y : Operand) (t tx : TypeId)
    (ho : o.op = .call { callee := .builtin .append, args := #[s, y], argTypes := #[t, tx] })
    (e : TypeId) (i : TypeInfo) (z : Value) (size : Nat) (ht : P.underlying t = some (.slice e)) (hi : P.info? e = some i) (hz : i.zero = some z) (hsize : i.size = size) (hzs : z.cells.size = size) (hsz : 0 < size)
    (B : Nat) (v : Value) (n : Nat) (xs : List Value) (hs : a.eval s = v) (hown : OwnC w B size v n xs) (x : Value) (hx : a.eval y = x) (m : Nat) (news : List Value) (hsrc : Src P size tx x m news w)
    (h63 : n + m ≤ maxLen) (hbytes : (n + m) * i.bytes ≤ 140737488355328) (hB : B ≤ w.heap.size)
    (h : ∀ v' w', OwnC w' B size v' (n + m) (xs ++ news) → w.grownBy w' v.ownBlock → (v'.ownBlock = v.ownBlock ∨ v'.ownBlock = some w.heap.size) → K (a.put o.dst v') w') : o.wp P a w K Q := by
  obtain ⟨v', w', hr, h2, h3, h4⟩ := run_append_C (P := P) w t tx o.type e i z size ht hi hz hsize hzs hsz B v n xs hown x m news hsrc h63 hbytes hB
  unfold Oper.wp execOp
  simp only [ho, resolve, invoke, builtin, Sem.run_bind, Sem.run_pure, Result.andThen_ok, List.map_toArray, List.map_cons, List.map_nil, hs, hx, hr]
  exact h v' w' h2 h3 h4
theorem wpList_append_C {ops : Array Oper} {rest : List Oper} {o : Oper} {a : Act} {Q : Exit → Act → World → Prop} (hgd : o.guard = none) (s y : Operand) (t tx : TypeId)
    (ho : o.op = .call { callee := .builtin .append, args := #[s, y], argTypes := #[t, tx] })
    (e : TypeId) (i : TypeInfo) (z : Value) (size : Nat) (ht : P.underlying t = some (.slice e)) (hi : P.info? e = some i) (hz : i.zero = some z) (hsize : i.size = size) (hzs : z.cells.size = size) (hsz : 0 < size)
    (B : Nat) (v : Value) (n : Nat) (xs : List Value) (hs : a.eval s = v) (hown : OwnC w B size v n xs) (x : Value) (hx : a.eval y = x) (m : Nat) (news : List Value) (hsrc : Src P size tx x m news w)
    (h63 : n + m ≤ maxLen) (hbytes : (n + m) * i.bytes ≤ 140737488355328) (hB : B ≤ w.heap.size)
    (h : ∀ v' w', OwnC w' B size v' (n + m) (xs ++ news) → w.grownBy w' v.ownBlock → (v'.ownBlock = v.ownBlock ∨ v'.ownBlock = some w.heap.size) → wpList P ops Q rest (a.put o.dst v') w') : wpList P ops Q (o :: rest) a w :=
  wpList_plain hgd fun _ hK => wp_append_C w s y t tx ho e i z size ht hi hz hsize hzs hsz B v n xs hs hown x hx m news hsrc h63 hbytes hB fun v' w' h2 h3 h4 => hK _ _ (h v' w' h2 h3 h4)
end

/-- from w, where v owned its row, to w', where v' owns its: all else that was there is as it was -/
structure Grew (w : World) (v : Value) (w' : World) (v' : Value) : Prop where
  by_ : w.grownBy w' v.ownBlock
  at_ : ∀ k, v'.ownBlock = some k → v.ownBlock = some k ∨ w.heap.size ≤ k
section
variable {w w' w2 : World} {v v' v2 : Value}
theorem Grew.refl (w : World) (v : Value) : Grew w v w v := ⟨gb_refl _ _, fun _ h => .inl h⟩
theorem Grew.trans (h : Grew w v w' v') (k : Grew w' v' w2 v2) : Grew w v w2 v2 :=
  ⟨⟨k.1.os.trans h.1.os, k.1.tape.trans h.1.tape, k.1.output.trans h.1.output, Nat.le_trans h.1.size k.1.size, fun i hi hne => (k.1.block i (Nat.lt_of_lt_of_le hi h.1.size) (fun e => by
    rcases h.2 i e.symm with h1 | h1
    · exact hne h1.symm
    · omega)).trans (h.1.block i hi hne)⟩,
   fun q hq => by
    rcases k.2 q hq with h1 | h1
    · exact h.2 q h1
    · exact .inr (Nat.le_trans h.1.size h1)⟩
theorem Grew.step {N : Nat} (h : w.grownBy w' v.ownBlock) (hat : v'.ownBlock = v.ownBlock ∨ v'.ownBlock = some N) (hN : w.heap.size ≤ N) : Grew w v w' v' :=
  ⟨h, fun k hk => by
    rcases hat with e | e
    · exact .inl (e ▸ hk)
    · rw [e] at hk; cases hk; exact .inr hN⟩
theorem Grew.below (h : Below w.heap.size w w') (v : Value) : Grew w v w' v := ⟨gb_of_below h _, fun _ h => .inl h⟩
theorem Grew.alloc (w : World) (o : Obj) (v : Value) : Grew w v (w.alloc o) v := .below ((Below.refl _ _).alloc (Nat.le_refl _) _) v
theorem Grew.drew (w : World) (v : Value) : Grew w v w.drew v := .below (Below.refl _ _).drew v
theorem Grew.blk (h : Grew w v w' v') {g : Nat} {t : TypeId} {cs : Array Value} (hb : Blk w g t cs) (hne : v.ownBlock ≠ some g) : Blk w' g t cs := hb.grown h.1 (fun e => hne e.symm)
theorem Grew.toBelow (h : Grew w v w' v') {B : Nat} {w0 : World} (hb : Below B w0 w) (hs : B ≤ w.heap.size) (hB : ∀ k, v.ownBlock = some k → B ≤ k) : Below B w0 w' := hb.grown h.1 hs hB
end
/-! ### bytes -/
section
def bv (l : List UInt8) : List Value := l.map fun c => Value.int .u8 (c.toNat : Int)
theorem bv_append (a b : List UInt8) : bv (a ++ b) = bv a ++ bv b := by simp [bv]
theorem bv_at {l : List UInt8} {j : Nat} {u : Value} (h : (bv l)[j]? = some u) : ∃ hj : j < l.length, u = .int .u8 (l[j].toNat : Int) := by
  obtain ⟨hj, rfl⟩ := List.getElem?_eq_some_iff.1 h
  have hj' : j < l.length := by simpa [bv] using hj
  exact ⟨hj', by simp [bv]⟩
theorem bv_one (l : List UInt8) : ∀ u ∈ bv l, u.oneCell' = true := by
  intro u hu
  obtain ⟨_, _, rfl⟩ := List.mem_map.1 hu
  rfl
theorem Src.one {P : Program} {w : World} {tx e' : TypeId} (hk : P.underlying tx = some (.slice e')) {g c : Nat} {u : Value} (hc : w.cell? ⟨g, 0, none⟩ = some u) (h1 : u.oneCell' = true) : Src P 1 tx (.slice (some ⟨g, 0, none⟩) 1 c) 1 [u] w :=
  Src.ofSlice w hk ⟨g, 0, none⟩ 1 c [u] rfl (fun j v hv => by
    match j, hv with
    | 0, hv => cases hv; exact hc) (fun x hx => by cases List.mem_singleton.1 hx; exact h1)
theorem Src.own {P : Program} {w : World} {B size : Nat} {tx e' : TypeId} (hk : P.underlying tx = some (.slice e')) {v : Value} {n : Nat} {xs : List Value} (h : OwnC w B size v n xs) (h1 : ∀ u ∈ xs, u.oneCell' = true) : Src P size tx v n xs w := by
  rcases h.2 with ⟨rfl, rfl⟩ | ⟨g, cap, rfl, hb, hlt, hnc, hcm, hs, hf, hx⟩
  · obtain rfl : xs = [] := List.eq_nil_of_length_eq_zero (by simpa using h.1)
    exact Src.ofNil w hk 0
  · exact Src.ofSlice w hk ⟨g, 0, none⟩ n cap xs h.1 (fun j u hu => by
      have hadd : (Addr.mk g 0 none).add j = ⟨g, j, none⟩ := by unfold Addr.add; split <;> simp_all
      rw [hadd]; exact hx j u hu) h1
/-- '[]byte(s)' -/
theorem own_bytes (w : World) (e : TypeId) (l : List UInt8) (cap : Nat) (hc : l.length ≤ cap) (hm : cap ≤ maxLen) :
    OwnC (w.alloc (.cells (bytesRow ⟨l.toArray⟩ cap) e ((bytesRow ⟨l.toArray⟩ cap).size, (bytesRow ⟨l.toArray⟩ cap).size + 1))) w.heap.size 1 (.slice (some ⟨w.heap.size, 0, none⟩) l.length cap) l.length (bv l) := by
  have hsz : (bytesRow ⟨l.toArray⟩ cap).size = cap := by simp [bytesRow, ByteArray.size]; omega
  refine ⟨by simp [bv], .inr ⟨w.heap.size, cap, rfl, Nat.le_refl _, by simp, hc, hm, fun j hj => ?_, fun j hj => ?_, fun j u hu => ?_⟩⟩
  · rw [World.cell?_alloc_mark, Array.getElem?_eq_getElem (by rw [hsz]; omega)]; rfl
  · rw [World.frozen?_alloc_mark, hsz]; simp; omega
  · obtain ⟨hj, rfl⟩ := bv_at hu
    rw [World.cell?_alloc_mark, bytesRow_at _ _ _ (by simpa using hj)]
    simp
/-- '[]byte(s)' at a step of a plain region -/
theorem wpList_bytes_C {P : Program} (w : World) {ops : Array Oper} {rest : List Oper} {o : Oper} {a : Act} {Q : Exit → Act → World → Prop} (hgd : o.guard = none) (src dst e : TypeId) (y : Operand) (ho : o.op = .convert src dst y)
    (hs : P.underlying src = some .string) (hd : P.underlying dst = some (.slice e)) (he : P.underlying e = some (.int .u8)) (l : List UInt8) (hy : a.eval y = .string ⟨l.toArray⟩) (hl : l.length ≤ maxLen)
    (h : ∀ g cap w', g = w.heap.size → OwnC w' w.heap.size 1 (.slice (some ⟨g, 0, none⟩) l.length cap) l.length (bv l) → Below w.heap.size w w' → w'.heap.size = w.heap.size + 1 → wpList P ops Q rest (a.put o.dst (.slice (some ⟨g, 0, none⟩) l.length cap)) w') : wpList P ops Q (o :: rest) a w :=
  wpList_plain hgd fun _ hK => by
    have hr := run_bytes_of_string (P := P) w src dst e ⟨l.toArray⟩ hs hd he
    have hge := grownCap_ge w l.length 0 e
    have hle := grownCap_le_maxLen w l.length 0 e hl
    have hown := own_bytes w.drew e l _ hge hle
    unfold Oper.wp execOp
    simp only [ho, hy, Sem.run_bind, Sem.run_pure, Result.andThen_ok, hr]
    exact hK _ _ (h _ _ _ rfl hown (((Below.refl _ w).drew).alloc (Nat.le_refl _) _) (by simp [World.alloc]))
end
end Go.Proofs.Ytaglomhmnoldlaa
