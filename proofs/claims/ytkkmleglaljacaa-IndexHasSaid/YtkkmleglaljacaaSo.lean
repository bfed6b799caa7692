/- slices.SortFunc and slices.SortedFunc at ranges. -/
import Derived.Test.YtkkmleglaljacaaShelf
import Derived.Test.YtkkmleglaljacaaB
import Derived.Test.YtkkmleglaljacaaIt
namespace Go.Proofs.Ytkkmleglaljacaa
open Go.RowKit Go.Shelf Go.Sort Go.Lib

theorem cmpR_lt (x y : Rg) : cmpR x y < 0 ↔ x.w < y.w ∨ (x.w = y.w ∧ x.f < y.f) := by
  unfold cmpR cmpI
  split <;> split <;> try split
  all_goals (try split) <;> omega
theorem swoR : SWO (ltOf cmpR) where
  irrefl x := by
    unfold ltOf
    rw [decide_eq_false_iff_not, cmpR_lt]; omega
  trans x y z h1 h2 := by
    unfold ltOf at *
    rw [decide_eq_true_iff, cmpR_lt] at *; omega
  ntrans x y z h1 h2 := by
    unfold ltOf at *
    rw [decide_eq_false_iff_not, cmpR_lt] at *; omega
theorem cmpLays (g size : Nat) (w : World) : CmpLays Try.prog 35 #[] rc 3 cmpR g 0 size w := fun _ _ _ _ x y => order_any x y _

theorem flat_at (d : Array Rg) (t : Nat) (h : t < d.size * 3) : (flatK rc 3 d)[t]! = (rcs d.toList)[t]! := by
  rw [get_flatK _ _ _ _ h]
  have hd : t / 3 < d.toList.length := by simp; omega
  have e := rcs_at d.toList (t / 3) (t % 3) hd (by omega)
  rw [show t / 3 * 3 + t % 3 = t by omega] at e
  rw [List.getElem!_eq_getElem?_getD (l := rcs d.toList), e, List.getElem!_eq_getElem?_getD, getElem!_pos d (t / 3) (by omega)]
  simp
theorem row_holds {w : World} {B g cap : Nat} {e : TypeId} {xs : List Rg} (h : w.ownsRow B e 3 (.slice (some ⟨g, 0, none⟩) xs.length cap) xs.length (rcs xs)) : HoldsK rc 3 w g 0 xs.toArray := by
  intro j hj
  rw [size_flatK] at hj
  rw [flat_at _ _ hj]
  have hl : j < (rcs xs).length := by rw [rcs_len]; simpa using hj
  rcases (OwnC.of_row h).2 with ⟨e, _⟩ | ⟨g', cap', e, _, _, hnc, _, _, hf, hx⟩
  · cases e
  · cases e
    rw [Nat.zero_add]
    refine ⟨?_, hf j (by simp at hj; omega)⟩
    rw [hx j _ (List.getElem?_eq_getElem hl)]
    simp [hl]
theorem sort_grown {w : World} {g n : Nat} {os : Array Obj} (d : Array Rg) : w.grownBy (sortWorldK rc 3 w g 0 n d os) (some g) := by
  unfold sortWorldK putRowK
  refine ⟨rfl, rfl, rfl, by simp [size_grow, putRow, mapBlock], fun k hk hne => ?_⟩
  unfold grow putRow mapBlock Go.Sort.ahead
  rw [Array.getElem?_append_left (by simpa using hk)]
  simp only [Array.getElem?_modify]
  rw [if_neg (fun e => hne (by rw [e]))]
theorem sort_row {w : World} {B g cap n : Nat} {os : Array Obj} {xs : List Rg} {d : Array Rg} (h : w.ownsRow B 33 3 (.slice (some ⟨g, 0, none⟩) xs.length cap) xs.length (rcs xs)) (hg : g < w.heap.size) (hd : d.size = xs.length) :
    (sortWorldK rc 3 w g 0 n d os).ownsRow B 33 3 (.slice (some ⟨g, 0, none⟩) xs.length cap) xs.length (rcs d.toList) := by
  refine ⟨by rw [rcs_len, ← hd]; simp, ?_⟩
  rcases h.2 with ⟨e, _⟩ | ⟨g', cap', cur, e, hb, hh, hle, hmx, hsz, htk⟩
  · cases e
  · cases e
    refine .inr ⟨g, cap, putCells id 0 (flatK rc 3 d) cur, rfl, hb, ?_, hle, hmx, ?_, ?_⟩
    · unfold sortWorldK putRowK grow putRow mapBlock Go.Sort.ahead
      rw [Array.getElem?_append_left (by simpa using hg)]
      simp only [Array.getElem?_modify, hh]
      rfl
    · simp [putCells, hsz]
    · apply List.ext_getElem?
      intro j
      rw [List.getElem?_take]
      have hd3 : d.size * 3 ≤ cap * 3 := by rw [hd]; exact Nat.mul_le_mul_right _ hle
      by_cases hj : j < xs.length * 3
      · rw [if_pos hj]
        have hj2 : j < d.size * 3 := by rw [hd]; exact hj
        have hjc : j < cur.size := by rw [hsz]; omega
        have hl : j < (rcs d.toList).length := by rw [rcs_len]; simpa using hj2
        have e := flat_at d j hj2
        simp only [putCells, Array.toList_mapIdx, List.getElem?_mapIdx, Array.getElem?_toList, Array.getElem?_eq_getElem hjc, Option.map_some]
        rw [if_pos (by rw [size_flatK]; omega), Nat.sub_zero, e]
        simp [hl]
      · rw [if_neg hj, List.getElem?_eq_none (by rw [rcs_len]; simp only [Array.length_toList]; omega)]

theorem is33 : ∀ w, (isAgg (Try.sortR_ren.t 24)).run Try.prog w = .ok true w := Try.isAgg33
theorem size33 : ∀ w, (Go.sizeOf (Try.sortR_ren.t 24)).run Try.prog w = .ok 3 w := Try.sizeOf33
/-- slices.SortFunc at a row of one's own: the same ranges, by device, then by the first number -/
theorem sort_any (B : Nat) (v : Value) (xs : List Rg) (w : World) (h : w.ownsRow B 33 3 v xs.length (rcs xs)) (hm : xs.length ≤ 1000000) :
    Calls Try.prog 40 #[v, .func (.func 35) #[] #[]] w fun e w' => e = .returned (.tuple #[]) ∧ ∃ s, List.Perm s xs ∧ s.Pairwise Ahead ∧ w'.ownsRow B 33 3 v s.length (rcs s) ∧ w.grownBy w' v.ownBlock := by
  rcases h.2 with ⟨rfl, e2⟩ | ⟨g, cap, cur, rfl, hb, hh, _⟩
  · have hx : xs = [] := List.eq_nil_of_length_eq_zero e2
    subst hx
    refine (AnyF.slices_SortFunc_none (P := Try.prog) (ρ := Try.sortR_ren) { Try.sortR with } none 0 _ w).mono ?_
    rintro e w' ⟨rfl, rfl⟩
    exact ⟨rfl, [], List.Perm.refl _, List.Pairwise.nil, h, gb_refl _ _⟩
  · have hlt : g < w.heap.size := Blk.lt (t := 33) (cs := cur) hh
    have eg : ∀ args w, (callFunc 35 args).run Try.prog w = .ok (.enter 35 args) w := enters_of Try.func35 (by kernel_rfl) rfl
    have hcon := AnyQ.slices_SortFunc (P := Try.prog) (ρ := Try.sortR_ren) Try.sortR 3 is33 size33 rc (fun _ => rfl) (fun x v hv => by simp [rc] at hv; rcases hv with rfl | rfl | rfl <;> rfl) cmpR swoR 35 #[] g 0 cap xs.toArray w eg (cmpLays g _ w) (row_holds h) hlt (by simp; omega)
    simp only [List.size_toArray] at hcon
    refine hcon.mono ?_
    rintro e w' ⟨rfl, d', n, os, hp, hs, rfl⟩
    have hsz : d'.size = xs.length := by simpa using hp.1
    refine ⟨rfl, d'.toList, ?_, ?_, ?_, sort_grown d'⟩
    · have h2 := hp.2.2
      rw [show d'.extract 0 xs.length = d' by rw [← hsz]; simp, show xs.toArray.extract 0 xs.length = xs.toArray by simp] at h2
      simpa using h2
    · rw [List.pairwise_iff_getElem]
      intro i j hi hj hij
      simp only [Array.length_toList] at hi hj
      have := hs i j (Nat.zero_le _) hij (by rw [← hsz]; exact hj)
      unfold ltOf at this
      rw [decide_eq_false_iff_not, cmpR_lt, getElem!_pos d' j hj, getElem!_pos d' i hi] at this
      simp only [Array.getElem_toList]
      unfold Ahead
      omega
    · have := sort_row (n := n) (os := os) h hlt hsz
      rw [show d'.toList.length = xs.length by rw [Array.length_toList]; exact hsz]
      exact this

set_option maxRecDepth 100000 in
set_option maxHeartbeats 1600000 in
theorem collect_any (Bs len cap : Nat) (A : Option Addr) (xs : List Rg) (w0 w : World) (hx : Sl w0 3 RgC A len cap xs) (hlen : len ≤ 1000000)
    (hb : Below w0.heap.size w0 w) (h1 : Bs < w.heap.size) (hge : w0.heap.size ≤ Bs) (hBs : Boxed w Bs 22 (.slice A len cap)) :
    Calls Try.prog 39 #[.func (.func 41) #[] #[.pointer (some ⟨Bs, 0, none⟩)]] w fun e w' => ∃ v, e = .returned v ∧ w'.ownsRow w.heap.size 33 3 v xs.length (rcs xs) ∧ Below w.heap.size w w' := by
  have H := Lib.hid ((callsIn_wide (n := 5)).1 (appendseq_in Fence.wide 5 trivial trivial rfl (by omega) Bs len cap A xs w0 w hx hlen hb h1 hge hBs))
  clear hBs hx hb
  go_enter Try.func39, Try.ntmps39
  go_wp2_with fail
  refine H.out.mono ?_
  rintro e w' ⟨v, rfl, ho, hb⟩
  have HO := Lib.hid ho
  have HB := Lib.hid hb
  clear ho hb
  go_wp2_with fail
  go_ret
  exact ⟨_, rfl, HO.out, HB.out⟩

set_option maxRecDepth 100000 in
set_option maxHeartbeats 1600000 in
theorem sorted_any (Bs len cap : Nat) (A : Option Addr) (xs : List Rg) (w0 w : World) (hx : Sl w0 3 RgC A len cap xs) (hlen : len ≤ 1000000)
    (hb : Below w0.heap.size w0 w) (h1 : Bs < w.heap.size) (hge : w0.heap.size ≤ Bs) (hBs : Boxed w Bs 22 (.slice A len cap)) :
    Calls Try.prog 33 #[.func (.func 41) #[] #[.pointer (some ⟨Bs, 0, none⟩)], .func (.func 35) #[] #[]] w fun e w' => ∃ v s, e = .returned v ∧ List.Perm s xs ∧ s.Pairwise Ahead ∧ w'.ownsRow w.heap.size 33 3 v s.length (rcs s) ∧ Below w.heap.size w w' := by
  have hl := hx.len
  have H := Lib.hid (collect_any Bs len cap A xs w0 w hx hlen hb h1 hge hBs)
  clear hBs hx hb
  go_enter Try.func33, Try.ntmps33
  go_wp2_with fail
  refine H.out.mono ?_
  rintro e w1 ⟨v, rfl, ho, hb⟩
  have HS := Lib.hid (sort_any _ v xs w1 ho (by omega))
  have hge1 : ∀ k, v.ownBlock = some k → w.heap.size ≤ k := fun k hk => ((OwnC.of_row ho).ge k hk).1
  have HG := Lib.hid hge1
  have HB := Lib.hid hb
  clear ho hb hge1
  go_wp2_with fail
  refine HS.out.mono ?_
  rintro e w2 ⟨rfl, s, hp, hs, ho, hg⟩
  have HO := Lib.hid ho
  have hb2 := HB.out.grown hg HB.out.size (fun k hk => HG.out k hk)
  have HB2 := Lib.hid hb2
  clear ho hg hb2
  go_wp2_with fail
  go_ret
  exact ⟨_, s, rfl, hp, hs, HO.out, HB2.out⟩
end Go.Proofs.Ytkkmleglaljacaa
