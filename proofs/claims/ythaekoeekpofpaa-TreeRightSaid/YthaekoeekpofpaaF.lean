/- Children of both: lists of one's own. -/
import Derived.Test.YthaekoeekpofpaaE
import Derived.Test.YthaekoeekpofpaaOwnC
namespace Go.Proofs.Ythaekoeekpofpaa
open Go.RowKit
attribute [local go_sem] bs_size bs_getElem bs_list bs_append

def ncs (l : List Nd) : List Value := l.flatMap nc
theorem ncs_append (a b : List Nd) : ncs (a ++ b) = ncs a ++ ncs b := by simp [ncs]
theorem ncs_len (l : List Nd) : (ncs l).length = l.length * 7 := by
  induction l with
  | nil => rfl
  | cons x l ih => simp only [ncs, List.flatMap_cons, List.length_append, List.length_cons] at ih ⊢; rw [ih]; simp [nc]; omega
theorem ncs_at (l : List Nd) (k j : Nat) (hk : k < l.length) (hj : j < 7) : (ncs l)[k * 7 + j]? = (nc l[k])[j]? := by
  induction l generalizing k with
  | nil => simp at hk
  | cons x l ih =>
    cases k with
    | zero =>
      simp only [ncs, List.flatMap_cons]
      rw [List.getElem?_append_left (by simp [nc]; omega)]
      simp
    | succ k =>
      have := ih k (by simpa using hk)
      simp only [ncs, List.flatMap_cons] at this ⊢
      rw [List.getElem?_append_right (by simp [nc]; omega)]
      rw [show (k + 1) * 7 + j - (nc x).length = k * 7 + j from by simp [nc]; omega, this]
      simp
/-- strings are no longer than can be -/
def Short (xs : List Nd) : Prop := ∀ x ∈ xs, x.nm.length ≤ 9223372036854775807 ∧ x.mf.length ≤ 9223372036854775807
/-- a list of nodes of one's own -/
abbrev Own (w : World) (B : Nat) (v : Value) (xs : List Nd) : Prop := OwnC w B 7 v xs.length (ncs xs)
theorem Nds.short {w : World} {A : Option Addr} {n c : Nat} {xs : List Nd} (h : Nds w A n c xs) : Short xs := fun x hx => by
  obtain ⟨j, hj, rfl⟩ := List.mem_iff_getElem.1 hx
  obtain ⟨b, off, cs, e, hlt, hl, ⟨_, h1, h2⟩, hc⟩ := h.4 j hj
  exact ⟨h1, h2⟩
theorem Own.nds {w : World} {B : Nat} {v : Value} {xs : List Nd} (h : Own w B v xs) (hs : Short xs) : ∃ A c, v = .slice A xs.length c ∧ Nds w A xs.length c xs := by
  rcases h.2 with ⟨rfl, h0⟩ | ⟨g, cap, rfl, hb, hlt, hnc, hcm, _, _, hx⟩
  · obtain rfl : xs = [] := List.eq_nil_of_length_eq_zero h0
    exact ⟨none, 0, rfl, Sl.nil_⟩
  · refine ⟨_, cap, rfl, rfl, hnc, by unfold maxLen at hcm; omega, fun i hi => ⟨g, 0, nc xs[i], rfl, hlt, rfl, ⟨rfl, hs _ (List.getElem_mem hi)⟩, fun j u hu => ?_⟩⟩
    have hj : j < 7 := by
      rcases Nat.lt_or_ge j 7 with h | h
      · exact h
      · rw [List.getElem?_eq_none (by simpa [nc] using h)] at hu; cases hu
    rw [Nat.zero_add]
    exact hx _ u (by rw [ncs_at xs i j hi hj]; exact hu)
theorem info37 : (Try.prog.info? 37).map (fun i => (i.zero, i.size, i.bytes)) = some (some (.agg #[.int .i64 0, .int .i64 0, .bool false, .int .i64 0, .int .i64 0, .string ⟨#[]⟩, .string ⟨#[]⟩]), 7, 72) := by kernel_rfl
theorem nc_one (x : Nd) : ∀ u ∈ nc x, u.oneCell' = true := by
  intro u hu
  simp [nc] at hu
  rcases hu with rfl | rfl | rfl | rfl | rfl | rfl | rfl <;> rfl
/-- one node handed to append -/
theorem Src.nd {w : World} {g c : Nat} (x : Nd) (h : Blk w g 37 (nc x).toArray) : Src Try.prog 7 25 (.slice (some ⟨g, 0, none⟩) 1 c) 1 (nc x) w :=
  Src.ofSlice w Try.underlying25 ⟨g, 0, none⟩ 1 c (nc x) rfl (fun j u hu => by
    have : (Addr.mk g 0 none).add j = ⟨g, j, none⟩ := by unfold Addr.add; split <;> simp_all
    rw [this, h.cell]
    simpa using hu) (nc_one x)
theorem OwnC.isSlice {w : World} {B size n : Nat} {v : Value} {xs : List Value} (h : OwnC w B size v n xs) : ∃ A c, v = .slice A n c := by
  rcases h.2 with ⟨rfl, rfl⟩ | ⟨g, cap, rfl, _⟩
  · exact ⟨_, _, rfl⟩
  · exact ⟨_, _, rfl⟩
theorem Blk.new2 (w : World) (o : Obj) (t : TypeId) (cs : Array Value) : Blk ((w.alloc o).alloc (.cells cs t)) (w.heap.size + 1) t cs := by
  have := Blk.new (w.alloc o) t cs
  rwa [show (w.alloc o).heap.size = w.heap.size + 1 from Array.size_push _] at this
theorem Own.snoc {w : World} {B : Nat} {v : Value} {xs : List Nd} {x : Nd} (h : OwnC w B 7 v (xs.length + 1) (ncs xs ++ nc x)) : Own w B v (xs ++ [x]) := by
  unfold Own
  rw [ncs_append, List.length_append]
  simpa [ncs] using h
/-- the nodes of a parent -/
def kidsN (s : St) (xs : List Nd) : List Nd := xs.filter fun x => decide (x.par = s)
theorem kids_succ (s : St) (xs : List Nd) (k : Nat) (h : k < xs.length) : kidsN s (xs.take (k + 1)) = kidsN s (xs.take k) ++ (if xs[k].par = s then [xs[k]] else []) := by
  unfold kidsN
  rw [List.take_succ_eq_append_getElem h, List.filter_append]
  congr 1
  by_cases c : xs[k].par = s <;> simp [c]
theorem kids_len (s : St) (xs : List Nd) (k : Nat) : (kidsN s (xs.take k)).length ≤ k := Nat.le_trans (List.length_filter_le _ _) (by rw [List.length_take]; omega)

set_option maxRecDepth 100000 in
set_option maxHeartbeats 3200000 in
theorem kids_any (s : St) (A : Option Addr) (n c : Nat) (xs : List Nd) (w : World) (hx : Nds w A n c xs) (hm : n ≤ 1000000) :
    Calls Try.prog 26 #[.slice A n c, sv s] w fun e w' => ∃ v, e = .returned v ∧ Own w' w.heap.size v (kidsN s xs) ∧ Below w.heap.size w w' := by
  obtain ⟨i0, hi0, hz0, hz1, hz2⟩ := info_parts info37
  have hn := hx.len
  have hmx := hx.max
  have hle := hx.le
  have hb1 : Below w.heap.size w (w.alloc (.cells #[.int .i64 s.1, .int .i64 s.2] 30)) := (Below.refl _ w).alloc (Nat.le_refl _) _
  have hB := Blk.new w 30 #[.int .i64 s.1, .int .i64 s.2]
  obtain ⟨w1, hw1⟩ : ∃ w1, w1 = w.alloc (.cells #[.int .i64 s.1, .int .i64 s.2] 30) := ⟨_, rfl⟩
  have hsz : w1.heap.size = w.heap.size + 1 := by rw [hw1]; exact Array.size_push _
  rw [← hw1] at hb1 hB
  have HW := Lib.hid hw1
  have HX := Lib.hid hx
  have HB1 := Lib.hid hb1
  have HBk := Lib.hid hB
  have HI := Lib.hid hi0
  have HZ0 := Lib.hid hz0
  have HZ1 := Lib.hid hz1
  have HZ2 := Lib.hid hz2
  have HSz := Lib.hid hsz
  clear hw1 hx hb1 hB hi0 hz0 hz1 hz2 hsz
  unfold sv
  go_enter Try.func26, Try.ntmps26
  go_wp2_with fail
  rw [← HW.out]
  go_loopw [5, 10] (fun u i wr => ∃ k : Nat, k ≤ n ∧ i = .int .i64 k ∧ Own wr (w.heap.size + 1) u (kidsN s (xs.take k)) ∧ Below w.heap.size w wr ∧ Blk wr w.heap.size 30 #[.int .i64 s.1, .int .i64 s.2]) (fun _ i _ => n - (intOf i).toNat)
  case atStart => exact ⟨0, by omega, rfl, OwnC.nil_ _ _ _, HB1.out, HBk.out⟩
  case round =>
    obtain ⟨k, hk, rfl, hO, hb, hBr⟩ := hrel
    have hBl := hBr.lt
    have q0 := hBr.cell 0
    have q1 := hBr.cell 1
    simp only [List.getElem?_toArray, List.getElem?_cons_zero, List.getElem?_cons_succ] at q0 q1
    rcases Nat.lt_or_ge k n with hlt | hge
    · obtain ⟨b, off, rfl, hbl, c0, c1, c2, c3, c4, c5, c6, _⟩ := Nds.at_ (HX.out.below hb) (by omega : k < xs.length)
      have hnext := kids_succ s xs k (by omega)
      have hkl := kids_len s xs k
      generalize xs[k] = x at *
      have hki : (k : Int) < (n : Int) := by omega
      have he := run_eql_st x.par s
      have hB2 := Blk.new wr 37 (nc x).toArray
      have q0 := cell?_alloc_old q0 (.cells (nc x).toArray 37)
      have q1 := cell?_alloc_old q1 (.cells (nc x).toArray 37)
      have g := blk7 hB2
      obtain ⟨A2, cc2, rfl⟩ := OwnC.isSlice hO
      have hO2 := OwnC.alloc hO (.cells (nc x).toArray 37)
      have hb2 := hb.alloc hb.size (.cells (nc x).toArray 37)
      have hBr2 := hBr.alloc (.cells (nc x).toArray 37)
      obtain ⟨w2, hw2⟩ : ∃ w2, w2 = wr.alloc (.cells (nc x).toArray 37) := ⟨_, rfl⟩
      rw [← hw2] at q0 q1 g hO2 hb2 hBr2
      obtain ⟨g0, g1, g2, g3, g4, g5, g6⟩ := g
      have hw2s : wr.heap.size < w2.heap.size := cell_lt g0
      have HW2 := Lib.hid (show w2 = wr.alloc (.cells #[.int .i64 x.id.1, .int .i64 x.id.2, .bool x.dir, .int .i64 x.par.1, .int .i64 x.par.2, .string (bs x.nm), .string (bs x.mf)] 37) from hw2)
      have HO2 := Lib.hid hO2
      have HB2 := Lib.hid hb2
      have HBr2 := Lib.hid hBr2
      clear hO hO2 hb hb2 hBr hBr2 hw2 hB2
      by_cases hp : x.par = s
      · have hd : decide (x.par = s) = true := decide_eq_true hp
        rw [if_pos hp] at hnext
        have HNx := Lib.hid hnext
        simp only [hd] at he
        clear hp hd hnext
        have hO3 := HW2.out ▸ HO2.out
        have hB3 := HW2.out ▸ HB2.out
        have hBr3 := HW2.out ▸ HBr2.out
        have hO4 := OwnC.alloc hO3 (.cells (nc x).toArray 37)
        have hB4 := hB3.alloc hB3.size (.cells (nc x).toArray 37)
        have hBr4 := hBr3.alloc (.cells (nc x).toArray 37)
        have hge := OwnC.ge hO4
        have hsz4 : w.heap.size + 1 ≤ ((wr.alloc (.cells #[.int .i64 x.id.1, .int .i64 x.id.2, .bool x.dir, .int .i64 x.par.1, .int .i64 x.par.2, .string (bs x.nm), .string (bs x.mf)] 37)).alloc (.cells (nc x).toArray 37)).heap.size := by simp; omega
        have HO4 := Lib.hid hO4
        have HB4 := Lib.hid hB4
        have HBr4 := Lib.hid hBr4
        have HGe := Lib.hid hge
        have HSz4 := Lib.hid hsz4
        clear hO3 hB3 hBr3 hO4 hB4 hBr4 hge hsz4
        go_wp2_with (at_builtin; refine wpList_append_C _ rfl (.tmp 18) (.tmp 20) 25 25 rfl 37 i0 (.agg #[.int .i64 0, .int .i64 0, .bool false, .int .i64 0, .int .i64 0, .string ⟨#[]⟩, .string ⟨#[]⟩]) 7 Try.underlying25 HI.out HZ0.out HZ1.out rfl (by decide) (w.heap.size + 1) _ (kidsN s (xs.take k)).length (ncs (kidsN s (xs.take k))) rfl HO4.out (.slice (some ⟨wr.heap.size + 1, 0, none⟩) 1 1) rfl 1 (nc x) ?c1 ?c3 ?c4 ?c5 ?_)
        case c1 => exact Src.nd x (Blk.new2 _ _ _ _)
        case c3 => unfold maxLen; omega
        case c4 => rw [HZ2.out]; omega
        case c5 => exact HSz4.out
        intro v' w3 hown hgrow hat
        have HOn := Lib.hid (Own.snoc hown)
        have HBn := Lib.hid (gb_own HB4.out (Nat.le_succ _) (Nat.le_of_succ_le HSz4.out) HO4.out hgrow)
        have HBrn := Lib.hid (Blk.grown HBr4.out hgrow (fun e => by have := (HGe.out _ e.symm).1; omega))
        clear hown hgrow hat
        go_wp2_with fail
        exact ⟨⟨k + 1, by omega, by go_num, by rw [HNx.out]; exact HOn.out, HBn.out, HBrn.out⟩, by simp [intOf]; omega⟩
      · have hd : decide (x.par = s) = false := decide_eq_false hp
        rw [if_neg hp, List.append_nil] at hnext
        have HNx := Lib.hid hnext
        simp only [hd] at he
        clear hp hd hnext
        go_wp2_with fail
        rw [← HW2.out]
        go_wp2_with fail
        exact ⟨⟨k + 1, by omega, by go_num, by rw [HNx.out]; exact HO2.out, HB2.out, HBr2.out⟩, by simp [intOf]; omega⟩
    · have hkn : ¬ (k : Int) < (n : Int) := by omega
      have hfin : xs.take k = xs := List.take_of_length_le (by omega)
      rw [hfin] at hO
      have HO := Lib.hid hO
      have HB := Lib.hid hb
      clear hO hb hBr hfin
      go_wp2_with fail
      go_ret
      exact ⟨_, rfl, HO.out.mono (Nat.le_succ _), HB.out⟩
end Go.Proofs.Ythaekoeekpofpaa
