/- Lists of operations of one's own; Ops. -/
import Derived.Test.YtaglomhmnoldlaaMi
namespace Go.Proofs.Ytaglomhmnoldlaa
open Go.RowKit
attribute [local go_sem] bs_size bs_getElem bs_list bs_append

def ocs (l : List TOp) : List Value := l.flatMap oc
theorem oc_len (x : TOp) : (oc x).length = 11 := rfl
theorem ocs_append (a b : List TOp) : ocs (a ++ b) = ocs a ++ ocs b := by simp [ocs]
theorem ocs_len (l : List TOp) : (ocs l).length = l.length * 11 := by
  induction l with
  | nil => rfl
  | cons x l ih => simp only [ocs, List.flatMap_cons, List.length_append, List.length_cons] at ih ⊢; rw [ih, oc_len]; omega
theorem ocs_at (l : List TOp) (k j : Nat) (hk : k < l.length) (hj : j < 11) : (ocs l)[k * 11 + j]? = (oc l[k])[j]? := by
  induction l generalizing k with
  | nil => simp at hk
  | cons x l ih =>
    cases k with
    | zero =>
      simp only [ocs, List.flatMap_cons]
      rw [List.getElem?_append_left (by rw [oc_len]; omega)]
      simp
    | succ k =>
      have := ih k (by simpa using hk)
      simp only [ocs, List.flatMap_cons] at this ⊢
      rw [List.getElem?_append_right (by rw [oc_len]; omega)]
      rw [show (k + 1) * 11 + j - (oc x).length = k * 11 + j from by rw [oc_len]; omega, this]
      simp
/-- strings are no longer than can be -/
def ShortO (xs : List TOp) : Prop := ∀ x ∈ xs, OpS x
abbrev OwnO (w : World) (B : Nat) (v : Value) (xs : List TOp) : Prop := OwnC w B 11 v xs.length (ocs xs)
theorem Ops.short {w : World} {A : Option Addr} {n c : Nat} {xs : List TOp} (h : Ops w A n c xs) : ShortO xs := fun x hx => by
  obtain ⟨j, hj, rfl⟩ := List.mem_iff_getElem.1 hx
  obtain ⟨b, off, cs, e, hlt, hl, ⟨_, h1, h2⟩, hc⟩ := h.4 j hj
  exact ⟨h1, h2⟩
theorem OwnO.ops {w : World} {B : Nat} {v : Value} {xs : List TOp} (h : OwnO w B v xs) (hs : ShortO xs) : ∃ A c, v = .slice A xs.length c ∧ Ops w A xs.length c xs := by
  rcases h.2 with ⟨rfl, h0⟩ | ⟨g, cap, rfl, hb, hlt, hnc, hcm, _, _, hx⟩
  · obtain rfl : xs = [] := List.eq_nil_of_length_eq_zero h0
    exact ⟨none, 0, rfl, Sl.nil_⟩
  · refine ⟨_, cap, rfl, rfl, hnc, by unfold maxLen at hcm; omega, fun i hi => ⟨g, 0, oc xs[i], rfl, hlt, rfl, ⟨rfl, hs _ (List.getElem_mem hi)⟩, fun j u hu => ?_⟩⟩
    have hj : j < 11 := by
      rcases Nat.lt_or_ge j 11 with h | h
      · exact h
      · rw [List.getElem?_eq_none (by rw [oc_len]; exact h)] at hu; cases hu
    rw [Nat.zero_add]
    exact hx _ u (by rw [ocs_at xs i j hi hj]; exact hu)
theorem info31 : (Try.prog.info? 31).map (fun i => (i.zero, i.size, i.bytes)) = some (some (.agg #[.int .i64 0, .int .i64 0, .int .i64 0, .int .i64 0, .int .i64 0, .int .i64 0, .bool false, .int .i64 0, .int .i64 0, .string ⟨#[]⟩, .string ⟨#[]⟩]), 11, 104) := by kernel_rfl
theorem oc_one (x : TOp) : ∀ u ∈ oc x, u.oneCell' = true := by
  intro u hu
  simp only [oc, List.mem_cons, List.not_mem_nil, or_false] at hu
  rcases hu with rfl | rfl | rfl | rfl | rfl | rfl | rfl | rfl | rfl | rfl | rfl <;> rfl
theorem ocs_one (xs : List TOp) : ∀ u ∈ ocs xs, u.oneCell' = true := by
  intro u hu
  obtain ⟨x, _, h⟩ := List.mem_flatMap.1 hu
  exact oc_one x u h
theorem Src.op {w : World} {g c : Nat} (x : TOp) (h : Blk w g 31 (oc x).toArray) : Src Try.prog 11 39 (.slice (some ⟨g, 0, none⟩) 1 c) 1 (ocs [x]) w :=
  Src.ofSlice w Try.underlying39 ⟨g, 0, none⟩ 1 c (ocs [x]) rfl (fun j u hu => by
    have : (Addr.mk g 0 none).add j = ⟨g, j, none⟩ := by unfold Addr.add; split <;> simp_all
    rw [this, h.cell, List.getElem?_toArray]
    have h1 : ocs [x] = oc x := List.append_nil _
    rw [h1] at hu
    exact hu) (ocs_one _)
theorem Src.ops {w : World} {A : Option Addr} {n c : Nat} {xs : List TOp} (h : Ops w A n c xs) : Src Try.prog 11 39 (.slice A n c) n (ocs xs) w := by
  have hl := h.len
  rcases Nat.eq_zero_or_pos n with h0 | hpos
  · subst h0
    obtain rfl := List.eq_nil_of_length_eq_zero hl
    cases A with
    | none => exact Src.ofNil w Try.underlying39 c
    | some a => exact Src.ofSlice w Try.underlying39 a 0 c [] rfl (fun j u hu => by simp at hu) (fun u hu => by cases hu)
  · obtain ⟨b, off, cs, rfl, _⟩ := h.4 0 (by omega)
    refine Src.ofSlice w Try.underlying39 ⟨b, off, none⟩ n c (ocs xs) (by rw [ocs_len, hl]) (fun j u hu => ?_) (ocs_one xs)
    have hj : j < n * 11 := by
      rcases Nat.lt_or_ge j (n * 11) with h | h
      · exact h
      · rw [List.getElem?_eq_none (by rw [ocs_len, hl]; exact h)] at hu; cases hu
    have hd : j = j / 11 * 11 + j % 11 := by omega
    have hq : j / 11 < xs.length := by omega
    rw [hd, ocs_at xs (j / 11) (j % 11) hq (by omega)] at hu
    obtain ⟨b2, off2, cs2, e, _, _, ⟨rfl, _⟩, hc⟩ := h.4 (j / 11) hq
    cases e
    have := hc (j % 11) u hu
    rw [Nat.add_assoc, ← hd] at this
    rw [Addr.add_mid]
    exact this
theorem Blk.there {w : World} {g : Nat} {t : TypeId} {cs : Array Value} (h : Blk w g t cs) {n : Nat} (hn : n ≤ cs.size) : w.there g 0 n := fun j hj => by
  rw [Nat.zero_add]
  exact ⟨by rw [h.cell, Array.getElem?_eq_getElem (by omega)]; rfl, h.frozen j⟩
/-- a struct is stored: what stands behind it, the world a letter -/
theorem wpList_store_opq {P : Program} {ops : Array Oper} {rest : List Oper} {op : Oper} {a : Act} {w : World} {Q : Exit → Act → World → Prop} (hgd : op.guard = none) (ty : TypeId) (x y : Operand) (ho : op.op = .store ty x y)
    (b o : Nat) (cells : Array Value) (hx : a.eval x = .pointer (some ⟨b, o, none⟩)) (hy : a.eval y = .agg cells)
    (ht : w.there b o cells.size) (hi : (P.info? ty).map (·.size) = some cells.size) (h1 : ∀ v ∈ cells.toList, v.oneCell' = true)
    (h : ∀ w', Wrote w w' b o cells.toList → wpList P ops Q rest (a.put op.dst undef) w') : wpList P ops Q (op :: rest) a w :=
  wpList_store_mid hgd ty x y ho b o cells hx hy ht hi (by have := all_oneCell_toArray h1; simpa using this) (h _ (Wrote.cells w b o _ (fun j hj => (ht j (by simpa using hj)).1)))
/-- a list of operations that is made in the call -/
structure RowO (B : Nat) (w0 w : World) (v : Value) (ys : List TOp) : Prop where
  own : OwnO w B v ys
  below : Below B w0 w
  le : B ≤ w.heap.size
theorem RowO.nil_ {B : Nat} {w0 w : World} (hb : Below B w0 w) (hs : B ≤ w.heap.size) : RowO B w0 w (.slice none 0 0) [] := ⟨OwnC.nil_ _ _ _, hb, hs⟩
theorem RowO.more {B : Nat} {w0 w w' : World} {v v' : Value} {ys zs : List TOp} {m : Nat} (h : RowO B w0 w v ys) (hm : zs.length = m) (ho : OwnC w' B 11 v' (ys.length + m) (ocs ys ++ ocs zs)) (hg : w.grownBy w' v.ownBlock) : RowO B w0 w' v' (ys ++ zs) := by
  refine ⟨?_, h.below.grown hg h.le (fun k hk => (h.own.ge k hk).1), Nat.le_trans h.le hg.size⟩
  show OwnC w' B 11 v' (ys ++ zs).length (ocs (ys ++ zs))
  rw [List.length_append, hm, ocs_append]
  exact ho
theorem RowO.alloc {B : Nat} {w0 w : World} {v : Value} {ys : List TOp} (h : RowO B w0 w v ys) (o : Obj) : RowO B w0 (w.alloc o) v ys := ⟨OwnC.alloc h.own o, h.below.alloc h.le o, Nat.le_trans h.le (by simp)⟩

theorem RowO.ne_new {B : Nat} {w0 w : World} {v : Value} {ys : List TOp} (h : RowO B w0 w v ys) : v.ownBlock ≠ some w.heap.size := fun e => by
  have := (h.own.ge _ e).2
  omega
/-- a new block is filled -/
theorem RowO.wrote {B : Nat} {w0 w w' : World} {v : Value} {ys : List TOp} {o : Obj} {news : List Value} (h : RowO B w0 w v ys) (hw : Wrote (w.alloc o) w' w.heap.size 0 news) : RowO B w0 w' v ys :=
  ⟨(OwnC.alloc h.own o).kept hw.grown (.inr h.ne_new), (h.below.alloc h.le o).grown hw.grown (Nat.le_trans h.le (by simp)) (fun k hk => by cases hk; exact h.le), Nat.le_trans (Nat.le_trans h.le (by simp)) hw.grown.size⟩
theorem RowO.own_at {B k : Nat} {w0 w : World} {v : Value} {L : List TOp} (h : RowO B w0 w v (L.take k)) (hk : k ≤ L.length) : OwnC w B 11 v k (ocs (L.take k)) := by
  have := h.own
  unfold OwnO at this
  rw [List.length_take, Nat.min_eq_left hk] at this
  exact this

set_option maxRecDepth 100000 in
set_option maxHeartbeats 1600000 in
theorem ops_nil (w : World) : Calls Try.prog 19 #[.pointer none] w fun e w' => e = .returned (.slice none 0 0) ∧ w = w' := by
  go_enter Try.func19, Try.ntmps19
  go_wp2_with fail
  go_ret
  exact ⟨rfl, rfl⟩

set_option maxRecDepth 100000 in
set_option maxHeartbeats 3200000 in
theorem ops_st (B p m : Nat) (v : Value) (r : Int) (L : List TOp) (w : World) (h : Mov w B p m v r L) :
    Calls Try.prog 19 #[.pointer (some ⟨p, 0, none⟩)] w fun e w' => ∃ v', e = .returned v' ∧ RowO w.heap.size w w' v' L := by
  obtain ⟨i0, hi0, hz0, hz1, hz2⟩ := info_parts info31
  have HI := Lib.hid hi0
  have HZ0 := Lib.hid hz0
  have HZ1 := Lib.hid hz1
  have HZ2 := Lib.hid hz2
  clear hi0 hz0 hz1 hz2
  have hlen := h.len
  obtain ⟨A, c, rfl, hrd⟩ := h.s3.log.rds
  rw [recsOf_len] at hrd
  have c0 := h.s3.stt.c0
  rw [recsOf_len] at c0
  have hcm := hrd.2.2.1
  have hcl := hrd.2.1
  have HR := Lib.hid hrd
  clear h hrd
  generalize hQ : (fun (e : Ending) (w' : World) => ∃ v', e = .returned v' ∧ RowO w.heap.size w w' v' L) = Q
  have HQ := Lib.hid hQ
  clear hQ
  go_enter Try.func19, Try.ntmps19
  go_wp2_with fail
  clear c0
  go_loopw [13, 3] (fun i o wr => ∃ k : Nat, k ≤ L.length ∧ i = .int .i64 (k : Int) ∧ RowKit.Hid (RowO w.heap.size w wr o (L.take k))) (fun i _ _ => L.length - (intOf i).toNat)
  case atStart => exact ⟨0, Nat.zero_le _, rfl, Lib.hid (RowO.nil_ (Below.refl _ _) (Nat.le_refl _))⟩
  case round =>
    obtain ⟨k, hk, rfl, HRow⟩ := hrel
    rcases Nat.lt_or_ge k L.length with hlt | hge
    · have hki : (k : Int) < (L.length : Int) := by omega
      obtain ⟨A2, c2, rfl⟩ := (HRow.out.own_at hk).isSlice
      obtain ⟨g, rfl, hrec⟩ := (HR.out.below HRow.out.below).2.2.2 k (by rw [recsOf_len]; exact hlt)
      rw [recsOf_at L k hlt] at hrec
      obtain ⟨y, hy⟩ : ∃ y, y = (doR (foldE (L.take k)) L[k]).was := ⟨_, rfl⟩
      obtain ⟨hd, hhd⟩ : ∃ y, y = (doR (foldE (L.take k)) L[k]).had := ⟨_, rfl⟩
      obtain ⟨mk, hmk⟩ : ∃ y, y = (doR (foldE (L.take k)) L[k]).made := ⟨_, rfl⟩
      obtain ⟨x, hx⟩ : ∃ x, x = L[k] := ⟨_, rfl⟩
      have hrec : RecAt wr g (k * 20) ⟨x, y, hd, mk⟩ := by rw [hy, hhd, hmk, hx]; exact hrec
      have kr : wr.rangeAt g (k * 20) [.int .i64 x.st.1, .int .i64 x.st.2, .int .i64 x.seq, .int .i64 x.kind, .int .i64 x.node.1, .int .i64 x.node.2, .bool x.dir, .int .i64 x.par.1, .int .i64 x.par.2, .string (bs x.nm), .string (bs x.mf), .int .i64 y.id.1, .int .i64 y.id.2, .bool y.dir, .int .i64 y.par.1, .int .i64 y.par.2, .string (bs y.nm), .string (bs y.mf), .bool hd, .bool mk] := fun j v hv => hrec.2 j v hv
      have KR := Lib.hid kr
      have HX := Lib.hid hx
      clear hy hhd hmk hx hrec kr
      go_wp2_with (first
        | (refine wpList_store_opq rfl 58 (.tmp 5) (.tmp 16) rfl wr.heap.size 0 _ rfl rfl (Blk.there (Blk.new wr 58 _) (Nat.le_refl _)) (by kernel_rfl) (fun u hu => rcs_one [⟨x, y, hd, mk⟩] u hu) ?_)
        | (refine wpList_load_mid rfl 58 (.tmp 15) rfl g (k * 20) rfl _ _ KR.out Try.underlying58 rfl (by kernel_rfl) ?_))
      intro w4 hw4
      have kr4 : w4.rangeAt wr.heap.size 0 [.int .i64 x.st.1, .int .i64 x.st.2, .int .i64 x.seq, .int .i64 x.kind, .int .i64 x.node.1, .int .i64 x.node.2, .bool x.dir, .int .i64 x.par.1, .int .i64 x.par.2, .string (bs x.nm), .string (bs x.mf)] := by
        intro j v hv
        refine hw4.at_ j v ?_
        have hj : j < 11 := by
          rcases Nat.lt_or_ge j 11 with h | h
          · exact h
          · rw [List.getElem?_eq_none h] at hv; cases hv
        have h20 : ∀ l2 : List Value, ((oc x) ++ l2)[j]? = (oc x)[j]? := fun l2 => List.getElem?_append_left hj
        exact (h20 (nc y ++ [.bool hd, .bool mk])).trans hv
      have HRow4 := Lib.hid (HRow.out.wrote hw4)
      have KR4 := Lib.hid kr4
      clear hw4 kr4
      go_wp2_with (first
        | (refine wpList_load_mid rfl 31 (.tmp 18) rfl wr.heap.size 0 rfl _ _ KR4.out Try.underlying31 rfl (by kernel_rfl) ?_)
        | (at_builtin; refine wpList_append_C _ rfl (.tmp 17) (.tmp 20) 39 39 rfl 31 i0 (.agg #[.int .i64 0, .int .i64 0, .int .i64 0, .int .i64 0, .int .i64 0, .int .i64 0, .bool false, .int .i64 0, .int .i64 0, .string ⟨#[]⟩, .string ⟨#[]⟩]) 11 Try.underlying39 HI.out HZ0.out HZ1.out rfl (by decide) w.heap.size _ k (ocs (L.take k)) rfl ((HRow4.out.own_at hk).alloc _) _ rfl 1 (ocs [x]) (Src.op x (Blk.new w4 31 (oc x).toArray)) (by unfold maxLen; omega) (by rw [HZ2.out]; omega) (Nat.le_trans HRow4.out.le (by simp)) ?_))
      intro v' w3 hown hgrow hat
      have hrow2 : RowO w.heap.size w w3 v' (L.take (k + 1)) := by
        have h1 := RowO.more (zs := [x]) (m := 1) (HRow4.out.alloc _) rfl (by
          rw [List.length_take, Nat.min_eq_left hk]; exact hown) hgrow
        rw [HX.out, ← List.take_succ_eq_append_getElem hlt] at h1
        exact h1
      have HR2 := Lib.hid hrow2
      clear hown hgrow hat hrow2
      go_wp2_with fail
      exact ⟨⟨k + 1, by omega, by go_num, HR2⟩, by simp [intOf]; omega⟩
    · obtain rfl : k = L.length := by omega
      have hd : ¬ (L.length : Int) < (L.length : Int) := by omega
      go_wp2_with fail
      rw [← HQ.out]
      have h := HRow.out
      rw [List.take_length] at h
      exact ⟨_, rfl, h⟩
end Go.Proofs.Ytaglomhmnoldlaa
