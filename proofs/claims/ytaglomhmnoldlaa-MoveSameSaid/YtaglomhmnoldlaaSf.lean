/- slices.SortFunc, slices.Collect, slices.SortedFunc at nodes; Nodes. -/
import Derived.Test.YtaglomhmnoldlaaShelf
import Derived.Test.YtaglomhmnoldlaaCm
import Derived.Shelf.SlSortCmp.QuietGrown
namespace Go.Proofs.Ytaglomhmnoldlaa
open Go.RowKit Go.Shelf Go.Sort Go.Lib
attribute [local go_sem] bs_size bs_getElem bs_list bs_append

theorem cmpN_lt (x y : Nd) : cmpN x y < 0 ↔ lessS x.id y.id = true := by
  unfold cmpN
  cases lessS x.id y.id <;> simp
theorem ltOf_cmpN (x y : Nd) : ltOf cmpN x y = lessS x.id y.id := by
  unfold ltOf
  cases h : lessS x.id y.id with
  | true => exact decide_eq_true ((cmpN_lt x y).2 h)
  | false => exact decide_eq_false (fun hc => by rw [(cmpN_lt x y).1 hc] at h; cases h)
theorem less_ntrans {a b c : St} (h : lessS a b = false) (k : lessS b c = false) : lessS a c = false := by
  cases hc : lessS a c with
  | false => rfl
  | true =>
    rw [less_iff] at hc
    have h1 : ¬ (lessS a b = true) := by rw [h]; simp
    have h2 : ¬ (lessS b c = true) := by rw [k]; simp
    rw [less_iff] at h1 h2
    omega
theorem swoN : SWO (ltOf cmpN) where
  irrefl x := by rw [ltOf_cmpN]; exact less_irrefl _
  trans x y z h1 h2 := by
    rw [ltOf_cmpN] at *
    exact less_trans h1 h2
  ntrans x y z h1 h2 := by
    rw [ltOf_cmpN] at *
    exact less_ntrans h1 h2
theorem cmpLays (g size : Nat) (w : World) : CmpLays Try.prog 32 #[] nc 7 cmpN g 0 size w := fun _ _ _ _ x y => order_nd x y _

theorem flat_at (d : Array Nd) (t : Nat) (h : t < d.size * 7) : (flatK nc 7 d)[t]! = (ncs d.toList)[t]! := by
  rw [get_flatK _ _ _ _ h]
  have hd : t / 7 < d.toList.length := by simp; omega
  have e := ncs_at d.toList (t / 7) (t % 7) hd (by omega)
  rw [show t / 7 * 7 + t % 7 = t by omega] at e
  rw [List.getElem!_eq_getElem?_getD (l := ncs d.toList), e, List.getElem!_eq_getElem?_getD, getElem!_pos d (t / 7) (by omega)]
  simp
theorem row_holds {w : World} {B g cap : Nat} {e : TypeId} {xs : List Nd} (h : w.ownsRow B e 7 (.slice (some ⟨g, 0, none⟩) xs.length cap) xs.length (ncs xs)) : HoldsK nc 7 w g 0 xs.toArray := by
  intro j hj
  rw [size_flatK] at hj
  rw [flat_at _ _ hj]
  have hl : j < (ncs xs).length := by rw [ncs_len]; simpa using hj
  rcases (OwnC.of_row h).2 with ⟨e, _⟩ | ⟨g', cap', e, _, _, hnc, _, _, hf, hx⟩
  · cases e
  · cases e
    rw [Nat.zero_add]
    refine ⟨?_, hf j (by simp at hj; omega)⟩
    rw [hx j _ (List.getElem?_eq_getElem hl)]
    simp [hl]
theorem sort_grown {w : World} {g n : Nat} {os : Array Obj} (d : Array Nd) : w.grownBy (sortWorldK nc 7 w g 0 n d os) (some g) := by
  unfold sortWorldK putRowK
  refine ⟨rfl, rfl, rfl, by simp [size_grow, putRow, mapBlock], fun k hk hne => ?_⟩
  unfold grow putRow mapBlock Go.Sort.ahead
  rw [Array.getElem?_append_left (by simpa using hk)]
  simp only [Array.getElem?_modify]
  rw [if_neg (fun e => hne (by rw [e]))]
theorem sort_row {w : World} {B g cap n : Nat} {os : Array Obj} {xs : List Nd} {d : Array Nd} (h : w.ownsRow B 38 7 (.slice (some ⟨g, 0, none⟩) xs.length cap) xs.length (ncs xs)) (hg : g < w.heap.size) (hd : d.size = xs.length) :
    (sortWorldK nc 7 w g 0 n d os).ownsRow B 38 7 (.slice (some ⟨g, 0, none⟩) xs.length cap) xs.length (ncs d.toList) := by
  refine ⟨by rw [ncs_len, ← hd]; simp, ?_⟩
  rcases h.2 with ⟨e, _⟩ | ⟨g', cap', cur, e, hb, hh, hle, hmx, hsz, htk⟩
  · cases e
  · cases e
    refine .inr ⟨g, cap, putCells id 0 (flatK nc 7 d) cur, rfl, hb, ?_, hle, hmx, ?_, ?_⟩
    · unfold sortWorldK putRowK grow putRow mapBlock Go.Sort.ahead
      rw [Array.getElem?_append_left (by simpa using hg)]
      simp only [Array.getElem?_modify, hh]
      rfl
    · simp [putCells, hsz]
    · apply List.ext_getElem?
      intro j
      rw [List.getElem?_take]
      have hd3 : d.size * 7 ≤ cap * 7 := by rw [hd]; exact Nat.mul_le_mul_right _ hle
      by_cases hj : j < xs.length * 7
      · rw [if_pos hj]
        have hj2 : j < d.size * 7 := by rw [hd]; exact hj
        have hjc : j < cur.size := by rw [hsz]; omega
        have hl : j < (ncs d.toList).length := by rw [ncs_len]; simpa using hj2
        have e := flat_at d j hj2
        simp only [putCells, Array.toList_mapIdx, List.getElem?_mapIdx, Array.getElem?_toList, Array.getElem?_eq_getElem hjc, Option.map_some]
        rw [if_pos (by rw [size_flatK]; omega), Nat.sub_zero, e]
        simp [hl]
      · rw [if_neg hj, List.getElem?_eq_none (by rw [ncs_len]; simp only [Array.length_toList]; omega)]

theorem is38 : ∀ w, (isAgg (Try.sortR_ren.t 24)).run Try.prog w = .ok true w := Try.isAgg38
theorem size38 : ∀ w, (Go.sizeOf (Try.sortR_ren.t 24)).run Try.prog w = .ok 7 w := Try.sizeOf38
/-- nodes in the order of their stamps -/
def AheadN (a b : Nd) : Prop := lessS b.id a.id = false
/-- slices.SortFunc at a row of one's own -/
theorem sort_any (B : Nat) (v : Value) (xs : List Nd) (w : World) (h : w.ownsRow B 38 7 v xs.length (ncs xs)) (hm : xs.length ≤ 1000000) :
    Calls Try.prog 42 #[v, .func (.func 32) #[] #[]] w fun e w' => e = .returned (.tuple #[]) ∧ ∃ s, List.Perm s xs ∧ s.Pairwise AheadN ∧ w'.ownsRow B 38 7 v s.length (ncs s) ∧ w.grownBy w' v.ownBlock := by
  rcases h.2 with ⟨rfl, e2⟩ | ⟨g, cap, cur, rfl, hb, hh, _⟩
  · have hx : xs = [] := List.eq_nil_of_length_eq_zero e2
    subst hx
    refine (AnyF.slices_SortFunc_none (P := Try.prog) (ρ := Try.sortR_ren) { Try.sortR with } none 0 _ w).mono ?_
    rintro e w' ⟨rfl, rfl⟩
    exact ⟨rfl, [], List.Perm.refl _, List.Pairwise.nil, h, gb_refl _ _⟩
  · have hlt : g < w.heap.size := Blk.lt (t := 38) (cs := cur) hh
    have eg : ∀ args w, (callFunc 32 args).run Try.prog w = .ok (.enter 32 args) w := enters_of Try.func32 (by kernel_rfl) rfl
    have hcon := AnyQ.slices_SortFunc (P := Try.prog) (ρ := Try.sortR_ren) Try.sortR 7 is38 size38 nc (fun _ => rfl) (fun x v hv => nc_one x v (by simpa using hv)) cmpN swoN 32 #[] g 0 cap xs.toArray w eg (cmpLays g _ w) (row_holds h) hlt (by simp; omega)
    simp only [List.size_toArray] at hcon
    refine hcon.mono ?_
    rintro e w' ⟨rfl, d', n, os, hp, hs, rfl⟩
    have hsz : d'.size = xs.length := by simpa using hp.1
    refine ⟨rfl, d'.toList, ?_, ?_, ?_, sort_grown d'⟩
    · have h2 := hp.2.2
      rw [show d'.extract 0 xs.length = d' by rw [← hsz]; simp, show xs.toArray.extract 0 xs.length = xs.toArray by simp] at h2
      simpa using h2
    · rw [List.pairwise_iff_getElem]
      intro i j hi hj hij
      simp only [Array.length_toList] at hi hj
      have := hs i j (Nat.zero_le _) hij (by rw [← hsz]; exact hj)
      rw [ltOf_cmpN, getElem!_pos d' j hj, getElem!_pos d' i hi] at this
      simp only [Array.getElem_toList]
      exact this
    · have := sort_row (n := n) (os := os) h hlt hsz
      rw [show d'.toList.length = xs.length by rw [Array.length_toList]; exact hsz]
      exact this

set_option maxRecDepth 100000 in
set_option maxHeartbeats 1600000 in
theorem collect_any (Bs b : Nat) (es : List Nd) (w : World) (hes : es.length ≤ 1000000) (h1 : Bs < w.heap.size) (hBs : Boxed w Bs 51 (.map (some b))) (hmap : MapN w b es) :
    Calls Try.prog 41 #[.func (.func 43) #[] #[.pointer (some ⟨Bs, 0, none⟩)]] w fun e w' => ∃ v ys, e = .returned v ∧ ys.Perm es ∧ w'.ownsRow w.heap.size 38 7 v ys.length (ncs ys) ∧ Below w.heap.size w w' := by
  have H := Lib.hid ((callsIn_wide (n := 5)).1 (appendseq_in Fence.wide 5 trivial trivial rfl (by omega) Bs b es w hes h1 hBs hmap))
  clear hBs hmap
  go_enter Try.func41, Try.ntmps41
  go_wp2_with fail
  refine H.out.mono ?_
  rintro e w' ⟨v, ys, rfl, hp, ho, hb⟩
  have HP := Lib.hid hp
  have HO := Lib.hid ho
  have HB := Lib.hid hb
  clear hp ho hb
  go_wp2_with fail
  go_ret
  exact ⟨_, ys, rfl, HP.out, HO.out, HB.out⟩

set_option maxRecDepth 100000 in
set_option maxHeartbeats 1600000 in
theorem sorted_any (Bs b : Nat) (es : List Nd) (w : World) (hes : es.length ≤ 1000000) (h1 : Bs < w.heap.size) (hBs : Boxed w Bs 51 (.map (some b))) (hmap : MapN w b es) :
    Calls Try.prog 30 #[.func (.func 43) #[] #[.pointer (some ⟨Bs, 0, none⟩)], .func (.func 32) #[] #[]] w fun e w' => ∃ v s, e = .returned v ∧ List.Perm s es ∧ s.Pairwise AheadN ∧ w'.ownsRow w.heap.size 38 7 v s.length (ncs s) ∧ Below w.heap.size w w' := by
  have H := Lib.hid (collect_any Bs b es w hes h1 hBs hmap)
  clear hBs hmap
  go_enter Try.func30, Try.ntmps30
  go_wp2_with fail
  refine H.out.mono ?_
  rintro e w1 ⟨v, ys, rfl, hp, ho, hb⟩
  have HS := Lib.hid (sort_any _ v ys w1 ho (by rw [hp.length_eq]; exact hes))
  have hge1 : ∀ k, v.ownBlock = some k → w.heap.size ≤ k := fun k hk => ((OwnC.of_row ho).ge k hk).1
  have HG := Lib.hid hge1
  have HB := Lib.hid hb
  have HP := Lib.hid hp
  clear ho hb hge1 hp
  go_wp2_with fail
  refine HS.out.mono ?_
  rintro e w2 ⟨rfl, s, hp, hs, ho, hg⟩
  have HO := Lib.hid ho
  have HP2 := Lib.hid (hp.trans HP.out)
  have HS2 := Lib.hid hs
  have hb2 := HB.out.grown hg HB.out.size (fun k hk => HG.out k hk)
  have HB2 := Lib.hid hb2
  clear ho hg hb2 hp hs
  go_wp2_with fail
  go_ret
  exact ⟨_, s, rfl, HP2.out, HS2.out, HO.out, HB2.out⟩

set_option maxRecDepth 100000 in
set_option maxHeartbeats 1600000 in
theorem nodes_nil (w : World) : Calls Try.prog 13 #[.pointer none] w fun e w' => e = .returned (.slice none 0 0) ∧ w = w' := by
  go_enter Try.func13, Try.ntmps13
  go_wp2_with fail
  go_ret
  exact ⟨rfl, rfl⟩

set_option maxRecDepth 100000 in
set_option maxHeartbeats 1600000 in
theorem nodes_st (p m : Nat) (v : Value) (r : Int) (es : List Nd) (w : World) (h : Stt w p m v r es) (hes : es.length ≤ 1000000) :
    Calls Try.prog 13 #[.pointer (some ⟨p, 0, none⟩)] w fun e w' => ∃ v s, e = .returned v ∧ List.Perm s es ∧ s.Pairwise AheadN ∧ Own w' w.heap.size v s ∧ Below w.heap.size w w' := by
  have c1 := h.c1
  have hb1 : Below w.heap.size w (w.alloc (.cells #[.map (some m)] 51)) := (Below.refl _ _).alloc (Nat.le_refl _) _
  have HS := Lib.hid (sorted_any w.heap.size m es (w.alloc (.cells #[.map (some m)] 51)) hes (by simp) (Blk.new w 51 #[.map (some m)]).toBox (h.map.below hb1))
  have HB1 := Lib.hid hb1
  clear h hb1
  go_enter Try.func13, Try.ntmps13
  go_wp2_with (first | (go_at_call 31; refine (mvals_any m w).mono ?_; rintro e w1 ⟨rfl, rfl⟩) | (go_at_call 30; refine HS.out.mono ?_; rintro e w2 ⟨v2, s, rfl, hp, hs, ho, hb⟩; have HP := Lib.hid hp; have HSo := Lib.hid hs; have HO := Lib.hid ho; have HB := Lib.hid hb; clear hp hs ho hb))
  go_ret
  have hB2 := HB1.out.trans (HB.out.mono (by simp))
  refine ⟨v2, s, rfl, HP.out, HSo.out, ?_, hB2⟩
  have := OwnC.of_row HO.out
  refine ⟨this.1, ?_⟩
  rcases this.2 with h2 | ⟨g, cap, e, hb, rr⟩
  · exact .inl h2
  · exact .inr ⟨g, cap, e, by have h3 : (w.alloc (.cells #[.map (some m)] 51)).heap.size = w.heap.size + 1 := by simp
                              omega, rr⟩
end Go.Proofs.Ytaglomhmnoldlaa
