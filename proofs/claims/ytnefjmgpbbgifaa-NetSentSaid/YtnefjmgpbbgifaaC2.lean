/- The walk of slices.Delete of one packet. -/
import Derived.Test.YtnefjmgpbbgifaaC
import Derived.Deep.RegionLaw
namespace Go.Proofs.Ytnefjmgpbbgifaa
open Go.RowKit
attribute [local go_sem] bs_size bs_getElem bs_list bs_append

theorem del_plain (cur cur1 cur2 : Array Value) (ps : List Pk) (k m : Nat) (news zs : List Value) (hnn : pcs (ps.drop (k + 1)) = news) (htk : cur.toList.take (ps.length * 3) = pcs ps)
    (hc1 : ∀ i, cur1[i]? = if k * 3 ≤ i ∧ i < k * 3 + news.length then news[i - k * 3]? else cur[i]?)
    (hc2 : ∀ i, cur2[i]? = if m * 3 ≤ i ∧ i < m * 3 + zs.length then zs[i - m * 3]? else cur1[i]?) (hm : m + 1 = ps.length) (hk : k < ps.length) :
    cur2.toList.take ((ps.length - 1) * 3) = pcs (ps.eraseIdx k) := by
  have hnl : news.length = (ps.length - (k + 1)) * 3 := by rw [← hnn, pcs_len]; simp
  have htl : (pcs (ps.take k)).length = k * 3 := by rw [pcs_len, List.length_take]; congr 1; omega
  rw [List.eraseIdx_eq_take_drop_succ, pcs_append, hnn]
  apply List.ext_getElem?
  intro i
  rcases Nat.lt_or_ge i ((ps.length - 1) * 3) with hi | hi
  · rw [List.getElem?_take_of_lt hi, Array.getElem?_toList, hc2, if_neg (by omega), hc1]
    by_cases h : k * 3 ≤ i
    · rw [if_pos (by omega), List.getElem?_append_right (by omega), htl]
    · rw [if_neg (by omega), List.getElem?_append_left (by omega), ← pcs_take, List.getElem?_take_of_lt (by omega), ← htk, List.getElem?_take_of_lt (by omega), Array.getElem?_toList]
  · rw [List.getElem?_eq_none (by simp; omega), List.getElem?_eq_none (by simp; omega)]

set_option maxRecDepth 100000 in
set_option maxHeartbeats 3200000 in
theorem delete_any (g cap : Nat) (cur : Array Value) (ps : List Pk) (k : Nat) (w : World) (hB : Blk w g 30 cur) (hsz : cur.size = cap * 3) (hle : ps.length ≤ cap) (hmx : cap ≤ 9223372036854775807) (htk : cur.toList.take (ps.length * 3) = pcs ps) (hk : k < ps.length) (hm : ps.length ≤ 1000000) :
    Calls Try.prog 27 #[.slice (some ⟨g, 0, none⟩) ps.length cap, .int .i64 k, .int .i64 ((k : Int) + 1)] w fun e w' => e = .returned (.slice (some ⟨g, 0, none⟩) (ps.length - 1) cap) ∧ w'.ownsRow 0 30 3 (.slice (some ⟨g, 0, none⟩) (ps.length - 1) cap) (ps.length - 1) (pcs (ps.eraseIdx k)) ∧ w.grownBy w' (some g) := by
  have hg := hB.lt
  obtain ⟨i0, hi0, hz0, hz1, hz2⟩ := info_parts info30
  have hcell : ∀ i, w.drew.cell? ⟨g, i, none⟩ = cur[i]? := fun i => hB.cell i
  have hfrz : ∀ i, w.drew.frozen? ⟨g, i, none⟩ = false := fun i => hB.frozen i
  have hk1 : k ≤ cap := by omega
  have hk2 : k + 1 ≤ ps.length := by omega
  have hk3 : k + 1 ≤ cap := by omega
  have hkq : ((k : Int) == (k : Int) + 1) = false := beq_eq_false_iff_ne.2 (by omega)
  have hadd : ∀ o j, (Addr.mk g o none).add j = ⟨g, o + j, none⟩ := fun o j => by unfold Addr.add; split <;> simp_all
  have hnews : (pcs (ps.drop (k + 1))).length = (ps.length - (k + 1)) * 3 := by rw [pcs_len]; simp
  have hat : ∀ j u, (pcs (ps.drop (k + 1)))[j]? = some u → w.drew.cell? ((Addr.mk g ((k + 1) * 3) none).add j) = some u := fun j u hu => by
    rw [hadd, hcell, ← hu]
    have hj : j < (ps.length - (k + 1)) * 3 := by
      rcases Nat.lt_or_ge j ((ps.length - (k + 1)) * 3) with h | h
      · exact h
      · rw [List.getElem?_eq_none (by rw [hnews]; exact h)] at hu; cases hu
    have h1 : pcs ps = pcs (ps.take (k + 1)) ++ pcs (ps.drop (k + 1)) := by rw [← pcs_append, List.take_append_drop]
    have h2 : (pcs (ps.take (k + 1))).length = (k + 1) * 3 := by rw [pcs_len, List.length_take]; congr 1; omega
    rw [← Array.getElem?_toList, ← List.getElem?_take_of_lt (j := ps.length * 3) (by omega), htk, h1, List.getElem?_append_right (by omega), h2]
    congr 1; omega
  have hone : ∀ u ∈ pcs (ps.drop (k + 1)), u.oneCell' = true := fun u hu => by
    simp only [pcs, List.mem_flatMap] at hu
    obtain ⟨x, _, hu⟩ := hu
    simp only [pc, List.mem_cons, List.not_mem_nil, or_false] at hu
    rcases hu with rfl | rfl | rfl <;> rfl
  have hspare : ∀ j, j < (pcs (ps.drop (k + 1))).length → (w.drew.cell? ⟨g, 0 + k * 3 + j, none⟩).isSome = true ∧ w.drew.frozen? ⟨g, 0 + k * 3 + j, none⟩ = false := fun j hj => by
    rw [hnews] at hj
    rw [hcell]
    refine ⟨?_, hfrz _⟩
    rw [Array.getElem?_eq_getElem (by omega)]; rfl
  have hnil : cap = k + 1 → ∀ j u, (pcs (ps.drop (k + 1)))[j]? = some u → w.drew.cell? ((Addr.mk g 0 none).add j) = some u := fun h j u hu => by
    rw [List.drop_eq_nil_of_le (by omega)] at hu
    simp [pcs] at hu
  obtain ⟨cur1, hB1, hs1, hc1⟩ := blk_setCells (pcs (ps.drop (k + 1))) (k * 3) w.drew cur hB (by rw [hnews]; omega)
  have hg1 : w.grownBy (w.drew.setCells g (k * 3) (pcs (ps.drop (k + 1)))) (some g) := gb_setCells _ _ _ (gb_drew (gb_refl w _))
  have HNw := Lib.hid hnews
  have HAt := Lib.hid hat
  have HOne := Lib.hid hone
  have HSp := Lib.hid hspare
  have HNil := Lib.hid hnil
  have HC1 := Lib.hid hc1
  have HG1 := Lib.hid hg1
  have HTk := Lib.hid htk
  have HB1 := Lib.hid hB1
  have HS1 := Lib.hid hs1
  clear hcell hfrz hat hadd hone hspare hnil hnews hc1 hg1 htk hB1 hs1 hB
  generalize hnn : pcs (ps.drop (k + 1)) = news at *
  have HNn := Lib.hid hnn
  clear hnn
  have hi1 : (0 : Int) ≤ (k : Int) + 1 := by omega
  have hi2 : (k : Int) + 1 ≤ (ps.length : Int) := by omega
  have hi3 : (k : Int) ≤ (k : Int) + 1 := by omega
  by_cases hcap : cap = k + 1
  · have HNl := Lib.hid (HNil.out hcap)
    clear HNil
    go_enter Try.func27, Try.ntmps27
    go_wp2_with fail
    go_region_law (refine step_append_room (by rfl) _ _ _ (by rfl) 30 i0 3 Try.underlying22 hi0 hz1 g 0 k (k + 1) (by rfl) ⟨g, 0, none⟩ (ps.length - (k + 1)) 0 news (by rfl) HNw.out HNl.out HOne.out (by omega) HSp.out ?_)
    obtain ⟨m, hmm⟩ : ∃ m, k + (ps.length - (k + 1)) = m := ⟨_, rfl⟩
    rw [hmm]
    have hm1 : m < ps.length := by omega
    have hm2 : ps.length ≤ m + 1 := by omega
    have hclr := run_clear_rows (P := Try.prog) (w.drew.setCells g (k * 3) news) 22 30 0 z30 3 Try.underlying22 zero30 rfl one30 g (m * 3) (ps.length - m) (k + 1 - m) (by omega)
      (fun j hj => by rw [HB1.out.cell, Array.getElem?_eq_getElem (by rw [HS1.out]; omega)]; rfl) (fun j _ => HB1.out.frozen _)
    have hzl : (Builtin.zeroCells z30.cells (ps.length - m)).toList.length = (ps.length - m) * 3 := by rw [Array.length_toList, size_zeroCells]; rfl
    generalize (Builtin.zeroCells z30.cells (ps.length - m)).toList = zs at *
    have HZl := Lib.hid hzl
    clear hzl hmm
    generalize w.drew.setCells g (k * 3) news = w2 at *
    go_wp2_with fail
    obtain ⟨cur2, hB2, hs2, hc2⟩ := blk_setCells zs (m * 3) w2 cur1 HB1.out (by rw [HZl.out, HS1.out]; omega)
    rw [hcap]
    refine bodyPost_ret (v := .slice (some ⟨g, 0, none⟩) m (k + 1)) (by simp [results, Try.results27, go_sem]) rfl ⟨by rw [show m = ps.length - 1 from by omega], ⟨by rw [pcs_len, List.length_eraseIdx_of_lt hk], .inr ⟨g, k + 1, cur2, rfl, Nat.zero_le _, hB2, by omega, by unfold maxLen; omega, by rw [hs2, HS1.out]; omega, ?_⟩⟩, gb_setCells _ _ _ HG1.out⟩
    exact del_plain cur cur1 cur2 ps k m news zs HNn.out HTk.out HC1.out hc2 (by omega) hk
  · go_enter Try.func27, Try.ntmps27
    go_wp2_with fail
    go_region_law (refine step_append_room (by rfl) _ _ _ (by rfl) 30 i0 3 Try.underlying22 hi0 hz1 g 0 k cap (by rfl) ⟨g, (k + 1) * 3, none⟩ (ps.length - (k + 1)) (cap - (k + 1)) news (by rfl) HNw.out HAt.out HOne.out (by omega) HSp.out ?_)
    obtain ⟨m, hmm⟩ : ∃ m, k + (ps.length - (k + 1)) = m := ⟨_, rfl⟩
    rw [hmm]
    have hm1 : m < ps.length := by omega
    have hm2 : ps.length ≤ m + 1 := by omega
    have hclr := run_clear_rows (P := Try.prog) (w.drew.setCells g (k * 3) news) 22 30 0 z30 3 Try.underlying22 zero30 rfl one30 g (m * 3) (ps.length - m) (cap - m) (by omega)
      (fun j hj => by rw [HB1.out.cell, Array.getElem?_eq_getElem (by rw [HS1.out]; omega)]; rfl) (fun j _ => HB1.out.frozen _)
    have hzl : (Builtin.zeroCells z30.cells (ps.length - m)).toList.length = (ps.length - m) * 3 := by rw [Array.length_toList, size_zeroCells]; rfl
    generalize (Builtin.zeroCells z30.cells (ps.length - m)).toList = zs at *
    have HZl := Lib.hid hzl
    clear hzl hmm
    generalize w.drew.setCells g (k * 3) news = w2 at *
    go_wp2_with fail
    obtain ⟨cur2, hB2, hs2, hc2⟩ := blk_setCells zs (m * 3) w2 cur1 HB1.out (by rw [HZl.out, HS1.out]; omega)
    refine bodyPost_ret (v := .slice (some ⟨g, 0, none⟩) m (cap)) (by simp [results, Try.results27, go_sem]) rfl ⟨by rw [show m = ps.length - 1 from by omega], ⟨by rw [pcs_len, List.length_eraseIdx_of_lt hk], .inr ⟨g, cap, cur2, rfl, Nat.zero_le _, hB2, by omega, by unfold maxLen; omega, by rw [hs2, HS1.out]; omega, ?_⟩⟩, gb_setCells _ _ _ HG1.out⟩
    exact del_plain cur cur1 cur2 ps k m news zs HNn.out HTk.out HC1.out hc2 (by omega) hk
end Go.Proofs.Ytnefjmgpbbgifaa
