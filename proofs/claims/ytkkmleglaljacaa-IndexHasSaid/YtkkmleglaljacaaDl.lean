/- slices.DeleteFunc at ranges; the closure of Gaps. -/
import Derived.Test.YtkkmleglaljacaaK
import Derived.Lib.SliceRun
namespace Go.Proofs.Ytkkmleglaljacaa
open Go.RowKit

theorem own_slx2 {W : World} {B n c : Nat} {e : TypeId} {A : Option Addr} {l : List Rg} (h : W.ownsRow B e 3 (.slice A n c) l.length (rcs l)) (hl : ∀ y ∈ l, R64 y) : Sl W 3 RgC A n c l := by
  obtain ⟨A', c', e2, h2⟩ := own_sl h hl
  cases e2
  exact h2
/-- what Gaps does not ask for -/
def notR (x : Rg) : Bool := !rightB x
set_option maxRecDepth 100000 in
set_option maxHeartbeats 1600000 in
theorem notR_any (x : Rg) (w : World) : Calls Try.prog 30 #[.agg #[.int .i64 x.w, .int .i64 x.f, .int .i64 x.t]] w fun e w' => e = .returned (.bool (notR x)) ∧ Below w.heap.size w w' := by
  have hnot : ∀ (x : Bool) (w : World), (Op.unary .not (.bool x)).run Try.prog w = .ok (.bool (!x)) w := fun _ _ => rfl
  have hb : Below w.heap.size w (w.alloc (.cells #[.int .i64 x.w, .int .i64 x.f, .int .i64 x.t] 33)) := (Below.refl _ w).alloc (Nat.le_refl _) _
  have HB := Lib.hid hb
  have HR := Lib.hid (fun W => right_any x W)
  unfold notR
  generalize rightB x = r at *
  unfold rv at HR
  clear hb
  go_enter Try.func30, Try.ntmps30
  go_wp2_with fail
  refine (HR.out _).mono ?_
  rintro e w' ⟨rfl, hb2⟩
  have hb3 := HB.out.trans (hb2.mono HB.out.size)
  clear hb2
  go_wp2_with fail
  go_ret
  exact ⟨rfl, hb3⟩
theorem cell?_alloc_old {w : World} {g i : Nat} {u : Value} (h : w.cell? ⟨g, i, none⟩ = some u) (o : Obj) : (w.alloc o).cell? ⟨g, i, none⟩ = some u := by
  rw [World.cell?_alloc_past _ _ _ (cell_lt h)]; exact h
theorem blk_setCells {g : Nat} {t : TypeId} : ∀ (vs : List Value) (o : Nat) (w : World) (cur : Array Value), Blk w g t cur → o + vs.length ≤ cur.size →
    ∃ cur', Blk (w.setCells g o vs) g t cur' ∧ cur'.size = cur.size ∧ ∀ i, cur'[i]? = if o ≤ i ∧ i < o + vs.length then vs[i - o]? else cur[i]?
  | [], o, w, cur, h, _ => ⟨cur, h, rfl, fun i => by rw [if_neg (by simp)]⟩
  | v :: r, o, w, cur, h, hl => by
    have h1 := Blk.set_ h o v
    obtain ⟨cur', h2, hs, hc⟩ := blk_setCells r (o + 1) _ _ h1 (by simp at hl ⊢; omega)
    refine ⟨cur', h2, by simpa using hs, fun i => ?_⟩
    rw [hc i]
    simp only [List.length_cons] at hl ⊢
    by_cases e : i = o
    · subst e
      rw [if_neg (by omega), if_pos (by omega), Array.getElem?_setIfInBounds]
      simp; omega
    · rw [Array.getElem?_setIfInBounds, if_neg (fun h : o = i => e h.symm)]
      by_cases hr : o + 1 ≤ i ∧ i < o + 1 + r.length
      · rw [if_pos hr, if_pos (by omega), show i - o = (i - (o + 1)) + 1 from by omega, List.getElem?_cons_succ]
      · rw [if_neg hr, if_neg (by omega)]
theorem gb_setCells {g : Nat} {a : World} : ∀ (vs : List Value) (o : Nat) (w : World), a.grownBy w (some g) → a.grownBy (w.setCells g o vs) (some g)
  | [], _, _, h => h
  | v :: r, o, w, h => gb_setCells r (o + 1) _ (gb_setCell h (p := ⟨g, o, none⟩) (Or.inl rfl) v)


theorem run_clear_rows {P : Program} (w : World) (t e ty : TypeId) (z : Value) (size : Nat) (ht : P.underlying t = some (.slice e)) (hv : ∀ w, (zeroValue e).run P w = .ok z w) (hzs : z.cells.size = size) (h1 : ∀ n, ∀ u ∈ (Builtin.zeroCells z.cells n).toList, u.oneCell' = true) (b o n c : Nat) (hn : 0 < n)
    (hc : ∀ j, j < n * size → (w.cell? ⟨b, o + j, none⟩).isSome = true) (hf : ∀ j, j < n * size → w.frozen? ⟨b, o + j, none⟩ = false) :
    (Builtin.clear_ #[t] ty #[.slice (some ⟨b, o, none⟩) n c]).run P w = .ok (.tuple #[]) (w.setCells b o (Builtin.zeroCells z.cells n).toList) := by
  have hlen : (Builtin.zeroCells z.cells n).toList.length = n * size := by rw [Array.length_toList, size_zeroCells, hzs]
  have hst := run_storeCells_cells (P := P) b o (Builtin.zeroCells z.cells n).toList 0 w (by rw [hlen]; simpa using hc) (by rw [hlen]; simpa using hf) (h1 n)
  simp only [Nat.add_zero] at hst
  obtain ⟨m, rfl⟩ : ∃ m, n = m + 1 := ⟨n - 1, by omega⟩
  simp [Builtin.clear_, run_underlying ht, hv, hst]

def z33 : Value := .agg #[.int .i64 0, .int .i64 0, .int .i64 0]
theorem zero33 (w : World) : (zeroValue 33).run Try.prog w = .ok z33 w := by kernel_rfl
theorem one33 : ∀ n, ∀ u ∈ (Builtin.zeroCells z33.cells n).toList, u.oneCell' = true := by
  intro n u hu
  simp only [Builtin.zeroCells, z33, Value.cells, Array.toList_map, List.mem_map] at hu
  obtain ⟨i, _, rfl⟩ := hu
  have : i % 3 = 0 ∨ i % 3 = 1 ∨ i % 3 = 2 := by omega
  rcases this with h | h | h <;> simp [h, Value.oneCell']
def keptL (ps : List Rg) : List Rg := ps.filter fun x => !notR x
theorem kept_succ (ps : List Rg) (j : Nat) (h : j < ps.length) : keptL (ps.take (j + 1)) = keptL (ps.take j) ++ (if notR ps[j] then [] else [ps[j]]) := by
  unfold keptL
  rw [List.take_succ_eq_append_getElem h, List.filter_append]
  congr 1
  cases hc : notR ps[j] <;> simp [hc]
theorem kept_len (ps : List Rg) (j : Nat) : (keptL (ps.take j)).length ≤ j := Nat.le_trans (List.length_filter_le _ _) (by rw [List.length_take]; omega)
theorem first_none {ps : List Rg} (h : firstR notR ps = -1) : keptL ps = ps := by
  unfold firstR at h
  cases hf : ps.findIdx? (notR) with
  | some i => rw [hf] at h; simp at h
  | none =>
    rw [List.findIdx?_eq_none_iff] at hf
    unfold keptL
    rw [List.filter_eq_self]
    intro x hx; simp [hf x hx]
theorem first_some {ps : List Rg} (h : firstR notR ps ≠ -1) : ∃ (i : Nat) (hi : i < ps.length), firstR notR ps = i ∧ notR ps[i] = true ∧ keptL (ps.take (i + 1)) = ps.take i := by
  unfold firstR at h ⊢
  cases hf : ps.findIdx? (notR) with
  | none => rw [hf] at h; exact absurd rfl h
  | some i =>
    obtain ⟨hi, hc, hall⟩ := List.findIdx?_eq_some_iff_getElem.1 hf
    refine ⟨i, hi, rfl, hc, ?_⟩
    rw [kept_succ ps i hi, hc, if_pos rfl, List.append_nil]
    unfold keptL
    rw [List.filter_eq_self]
    intro x hx
    obtain ⟨j, hj, rfl⟩ := List.mem_iff_getElem.1 hx
    have hj' : j < i := by rw [List.length_take] at hj; omega
    rw [List.getElem_take]
    have := hall j hj'
    simp at this
    simp [this]

/-- block g in the midst of DeleteFunc: the kept packets first, from place j on as it was -/
structure Mid (w wr : World) (g cap : Nat) (ps ks : List Rg) (j : Nat) : Prop where
  ex : ∃ cur, Blk wr g 33 cur ∧ cur.size = cap * 3 ∧ (∀ t, t < ks.length * 3 → cur[t]? = (rcs ks)[t]?) ∧ (∀ t, j * 3 ≤ t → t < ps.length * 3 → cur[t]? = (rcs ps)[t]?)
  grown : w.grownBy wr (some g)
section
variable {w wr wr' : World} {g cap j : Nat} {ps ks : List Rg}
theorem Mid.below (h : Mid w wr g cap ps ks j) (hb : Below wr.heap.size wr wr') : Mid w wr' g cap ps ks j := by
  obtain ⟨cur, h1, h2⟩ := h.ex
  exact ⟨⟨cur, h1.below hb h1.lt, h2⟩, gb_below h.grown hb⟩
theorem Mid.next (h : Mid w wr g cap ps ks j) : Mid w wr g cap ps ks (j + 1) := by
  obtain ⟨cur, h1, h2, h3, h4⟩ := h.ex
  exact ⟨⟨cur, h1, h2, h3, fun t ht => h4 t (by omega)⟩, h.grown⟩
theorem Mid.cells (h : Mid w wr g cap ps ks j) (hj : j < ps.length) : wr.cell? ⟨g, j * 3, none⟩ = some (.int .i64 ps[j].w) ∧ wr.cell? ⟨g, j * 3 + 1, none⟩ = some (.int .i64 ps[j].f) ∧ wr.cell? ⟨g, j * 3 + 2, none⟩ = some (.int .i64 ps[j].t) := by
  obtain ⟨cur, h1, h2, h3, h4⟩ := h.ex
  have key : ∀ i, i < 3 → wr.cell? ⟨g, j * 3 + i, none⟩ = (rc ps[j])[i]? := fun i hi => by rw [h1.cell, h4 _ (by omega) (by omega), rcs_at ps j i hj hi]
  exact ⟨key 0 (by omega), key 1 (by omega), key 2 (by omega)⟩
theorem Mid.lt (h : Mid w wr g cap ps ks j) : g < wr.heap.size := by obtain ⟨cur, h1, _⟩ := h.ex; exact h1.lt
theorem Mid.some_ (h : Mid w wr g cap ps ks j) {i : Nat} (hi : i < cap * 3) : ∃ v, wr.cell? ⟨g, i, none⟩ = some v := by
  obtain ⟨cur, h1, h2, _⟩ := h.ex
  exact ⟨cur[i]'(by omega), by rw [h1.cell, Array.getElem?_eq_getElem (by omega)]⟩
theorem Mid.frozen (h : Mid w wr g cap ps ks j) (i : Nat) : wr.frozen? ⟨g, i, none⟩ = false := by obtain ⟨cur, h1, _⟩ := h.ex; exact h1.frozen i
/-- packet x laid behind the kept ones -/
theorem Mid.put (h : Mid w wr g cap ps ks j) (x : Rg) (hk : ks.length < j) (hj : j ≤ cap) :
    Mid w (((wr.setCell ⟨g, ks.length * 3, none⟩ (.int .i64 x.w)).setCell ⟨g, ks.length * 3 + 1, none⟩ (.int .i64 x.f)).setCell ⟨g, ks.length * 3 + 2, none⟩ (.int .i64 x.t)) g cap ps (ks ++ [x]) j := by
  obtain ⟨cur, h1, h2, h3, h4⟩ := h.ex
  refine ⟨⟨_, ((h1.set_ (ks.length * 3) (.int .i64 x.w)).set_ (ks.length * 3 + 1) (.int .i64 x.f)).set_ (ks.length * 3 + 2) (.int .i64 x.t), by simp [h2], fun t ht => ?_, fun t ht1 ht2 => ?_⟩, gb_setCell (gb_setCell (gb_setCell h.grown (Or.inl rfl) _) (Or.inl rfl) _) (Or.inl rfl) _⟩
  · simp only [Array.getElem?_setIfInBounds, Array.size_setIfInBounds]
    rw [rcs_append]
    have hl := rcs_len ks
    have hx : rcs [x] = [.int .i64 x.w, .int .i64 x.f, .int .i64 x.t] := by simp [rcs, rc]
    rcases Nat.lt_or_ge t (ks.length * 3) with h | h
    · rw [if_neg (by omega), if_neg (by omega), if_neg (by omega), h3 t h, List.getElem?_append_left (by omega)]
    · rw [List.getElem?_append_right (by omega), hl, hx]
      have : t = ks.length * 3 ∨ t = ks.length * 3 + 1 ∨ t = ks.length * 3 + 2 := by simp at ht; omega
      rcases this with rfl | rfl | rfl
      · rw [if_neg (by omega), if_neg (by omega), if_pos rfl, if_pos (by omega)]; simp
      · rw [if_neg (by omega), if_pos rfl, if_pos (by omega)]; simp
      · rw [if_pos rfl, if_pos (by omega)]; simp
  · simp only [Array.getElem?_setIfInBounds]
    rw [if_neg (by omega), if_neg (by omega), if_neg (by omega)]
    exact h4 t ht1 ht2
end
set_option maxRecDepth 100000 in
set_option maxHeartbeats 3200000 in
theorem delfunc_none (B : Nat) (v : Value) (ps : List Rg) (w : World) (hrow : w.ownsRow B 33 3 v ps.length (rcs ps)) (hr : ∀ x ∈ ps, R64 x) (hm : ps.length ≤ 1000000) (hf : firstR notR ps = -1) :
    Calls Try.prog 29 #[v, .func (.func 30) #[] #[]] w fun e w' => e = .returned v ∧ Below w.heap.size w w' := by
  obtain ⟨A, c, rfl⟩ := row_slice hrow
  have h1 := index30 notR A ps.length c ps w (own_slx2 hrow hr) hm (fun y _ W _ => notR_any y W)
  rw [hf] at h1
  have H1 := Lib.hid h1
  clear h1 hf hrow
  go_enter Try.func29, Try.ntmps29
  go_wp2_with fail
  refine H1.out.mono ?_
  rintro e w2 ⟨rfl, hb2⟩
  go_wp2_with fail
  go_ret
  exact ⟨rfl, hb2⟩

set_option maxRecDepth 100000 in
set_option maxHeartbeats 3200000 in
theorem delfunc_some (B : Nat) (g cap : Nat) (ps : List Rg) (w : World) (hrow : w.ownsRow B 33 3 (.slice (some ⟨g, 0, none⟩) ps.length cap) ps.length (rcs ps)) (hr : ∀ x ∈ ps, R64 x) (hm : ps.length ≤ 1000000) (hf : firstR notR ps ≠ -1) :
    Calls Try.prog 29 #[.slice (some ⟨g, 0, none⟩) ps.length cap, .func (.func 30) #[] #[]] w fun e w' =>
      e = .returned (.slice (some ⟨g, 0, none⟩) (keptL ps).length cap) ∧ w'.ownsRow B 33 3 (.slice (some ⟨g, 0, none⟩) (keptL ps).length cap) (keptL ps).length (rcs (keptL ps)) ∧ w.grownBy w' (some g) := by
  have h1 := index30 notR (some ⟨g, 0, none⟩) ps.length cap ps w (own_slx2 hrow hr) hm (fun y _ W _ => notR_any y W)
  obtain ⟨i, hi, hfi, hci, hki⟩ := first_some hf
  rw [hfi] at h1
  have hne : ((i : Int) == (-1 : Int)) = false := beq_eq_false_iff_ne.2 (by omega)
  have hgB : B ≤ g := by
    obtain ⟨_, _, e, h2, _⟩ := row_at hrow rfl hi
    cases e; exact h2
  obtain ⟨hcap, hcm⟩ : ps.length ≤ cap ∧ cap ≤ 9223372036854775807 := by
    obtain ⟨_, _, e, _, _, h3, h4, _⟩ := row_at hrow rfl hi
    cases e; exact ⟨h3, h4⟩
  have hmid : Mid w w g cap ps (ps.take i) (i + 1) := by
    rcases hrow.2 with ⟨e, _⟩ | ⟨g', cap', cur, e, _, hh, hle, hmx, hsz, htk⟩
    · cases e
    · cases e
      refine ⟨⟨cur, hh, hsz, fun t ht => ?_, fun t _ ht => ?_⟩, gb_refl _ _⟩
      · rw [List.length_take] at ht
        rw [← rcs_take, List.getElem?_take_of_lt (by omega), ← htk, List.getElem?_take_of_lt (by omega), Array.getElem?_toList]
      · rw [← htk, List.getElem?_take_of_lt (by omega), Array.getElem?_toList]
  rw [← hki] at hmid
  have H1 := Lib.hid h1
  have HM := Lib.hid hmid
  have HKI := Lib.hid hki
  have hkl : (keptL (ps.take (i + 1))).length = i := by rw [hki, List.length_take]; omega
  have HKL := Lib.hid hkl
  clear h1 hf hrow hmid hki hfi hci hkl
  have hnot : ∀ (x : Bool) (w : World), (Op.unary .not (.bool x)).run Try.prog w = .ok (.bool (!x)) w := fun _ _ => rfl
  go_enter Try.func29, Try.ntmps29
  go_wp2_with fail
  refine H1.out.mono ?_
  rintro e w2 ⟨rfl, hb2⟩
  have HM2 := Lib.hid (HM.out.below hb2)
  clear hb2
  go_wp2_with fail
  go_loopw [5, 6] (fun u j wr => ∃ jj : Nat, jj ≤ ps.length ∧ j = .int .i64 jj ∧ u = .int .i64 ((keptL (ps.take jj)).length : Nat) ∧ (keptL (ps.take jj)).length < jj ∧ Mid w wr g cap ps (keptL (ps.take jj)) jj) (fun _ j _ => ps.length - (intOf j).toNat)
  case atStart => exact ⟨i + 1, by omega, by go_num, by rw [HKL.out], by rw [HKL.out]; omega, HM2.out⟩
  case round =>
    obtain ⟨j, hj, rfl, rfl, hlt, hmid⟩ := hrel
    rcases Nat.lt_or_ge j ps.length with hjl | hjg
    · obtain ⟨c0, c1, c2⟩ := hmid.cells hjl
      have hks := kept_succ ps j hjl
      obtain ⟨x, hx⟩ : ∃ x, ps[j] = x := ⟨_, rfl⟩
      rw [hx] at c0 c1 c2 hks
      generalize keptL (ps.take j) = ks at *
      have hb3 : Below wr.heap.size wr (wr.alloc (.cells #[.int .i64 x.w, .int .i64 x.f, .int .i64 x.t] 33)) := (Below.refl _ wr).alloc (Nat.le_refl _) _
      have HC := Lib.hid (notR_any x (wr.alloc (.cells #[.int .i64 x.w, .int .i64 x.f, .int .i64 x.t] 33)))
      have hP := Blk.new wr 33 #[.int .i64 x.w, .int .i64 x.f, .int .i64 x.t]
      have HP := Lib.hid hP
      have HM3 := Lib.hid (hmid.below hb3)
      have HKS := Lib.hid hks
      have hgl := hmid.lt
      clear hks hx hb3 hP hmid
      go_wp2_with fail
      refine HC.out.mono ?_
      rintro e w4 ⟨rfl, hb4⟩
      have hM4 := HM3.out.below hb4
      have hP4 := Blk.below HP.out hb4 (Blk.lt HP.out)
      obtain ⟨a0, a1, a2⟩ := blk3 hP4
      cases hcx : notR x with
      | true =>
        have HM5 := Lib.hid hM4
        clear hM4 hP4 hb4
        go_wp2_with fail
        have e1 : keptL (ps.take (j + 1)) = ks := by rw [HKS.out, hcx]; simp
        exact ⟨⟨j + 1, by omega, by go_num, by rw [e1], by rw [e1]; omega, by rw [e1]; exact HM5.out.next⟩, by simp [intOf]; omega⟩
      | false =>
        obtain ⟨v0, s0⟩ := hM4.some_ (i := ks.length * 3) (by omega)
        obtain ⟨v1, s1⟩ := hM4.some_ (i := ks.length * 3 + 1) (by omega)
        obtain ⟨v2, s2⟩ := hM4.some_ (i := ks.length * 3 + 2) (by omega)
        have f0 := hM4.frozen (ks.length * 3)
        have f1 := hM4.frozen (ks.length * 3 + 1)
        have f2 := hM4.frozen (ks.length * 3 + 2)
        have HM5 := Lib.hid (hM4.put x hlt (by omega))
        have e1 : keptL (ps.take (j + 1)) = ks ++ [x] := by rw [HKS.out, hcx]; simp
        have HE := Lib.hid e1
        have hil : ks.length < ps.length := by omega
        clear hM4 hP4 hb4 e1
        go_wp2_with fail
        exact ⟨⟨j + 1, by omega, by go_num, by rw [HE.out, List.length_append]; go_num, by rw [HE.out, List.length_append]; simp; omega, by rw [HE.out]; exact HM5.out.next⟩, by simp [intOf]; omega⟩
    · obtain rfl : j = ps.length := by omega
      rw [List.take_length] at hlt hmid ⊢
      obtain ⟨ks, hks⟩ : ∃ ks, ks = keptL ps := ⟨_, rfl⟩
      rw [← hks] at hlt hmid ⊢
      have HKs := Lib.hid hks
      clear hks
      obtain ⟨m, hm'⟩ : ∃ m, m = ks.length := ⟨_, rfl⟩
      rw [← hm'] at hlt ⊢
      have hclr := run_clear_rows (P := Try.prog) wr 22 33 0 z33 3 Try.underlying22 zero33 rfl one33 g (m * 3) (ps.length - m) (cap - m) (by omega)
        (fun t ht => by obtain ⟨u, hu⟩ := hmid.some_ (i := m * 3 + t) (by omega); rw [hu]; rfl) (fun t _ => hmid.frozen _)
      have hzl : (Builtin.zeroCells z33.cells (ps.length - m)).toList.length = (ps.length - m) * 3 := by rw [Array.length_toList, size_zeroCells]; rfl
      generalize (Builtin.zeroCells z33.cells (ps.length - m)).toList = zs at *
      have HZl := Lib.hid hzl
      have HMd := Lib.hid hmid
      have HM' := Lib.hid hm'
      clear hzl hmid hm'
      have hmc : m ≤ cap := by omega
      have hml : m ≤ ps.length := by omega
      have hcm' : ¬ cap = m := by omega
      go_wp2_with fail
      obtain ⟨cur, h1, h2, h3, h4⟩ := HMd.out.ex
      obtain ⟨cur2, hB2, hs2, hc2⟩ := blk_setCells zs (m * 3) wr cur h1 (by rw [HZl.out, h2]; omega)
      refine bodyPost_ret (v := .slice (some ⟨g, 0, none⟩) m cap) (by simp [results, Try.results29, go_sem]) rfl ?_
      rw [← HKs.out, ← HM'.out]
      refine ⟨rfl, ⟨by rw [rcs_len, HM'.out], .inr ⟨g, cap, cur2, rfl, hgB, hB2, hmc, by unfold maxLen; omega, by rw [hs2, h2], ?_⟩⟩, gb_setCells _ _ _ HMd.out.grown⟩
      apply List.ext_getElem?
      intro t
      rcases Nat.lt_or_ge t (m * 3) with ht | ht
      · rw [List.getElem?_take_of_lt ht, Array.getElem?_toList, hc2, if_neg (by omega), h3 t (by rw [← HM'.out]; exact ht)]
      · rw [List.getElem?_eq_none (by simp; omega), List.getElem?_eq_none (by rw [rcs_len, ← HM'.out]; exact ht)]
end Go.Proofs.Ytkkmleglaljacaa
