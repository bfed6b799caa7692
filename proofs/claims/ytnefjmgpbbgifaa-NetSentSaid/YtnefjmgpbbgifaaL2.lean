/- The walk of slices.DeleteFunc. -/
import Derived.Test.YtnefjmgpbbgifaaL
namespace Go.Proofs.Ytnefjmgpbbgifaa
open Go.RowKit
attribute [local go_sem] bs_size bs_getElem bs_list bs_append

set_option maxRecDepth 100000 in
set_option maxHeartbeats 3200000 in
theorem delfunc_none (q : Nat) (who : Int) (v : Value) (ps : List Pk) (w : World) (hrow : w.ownsRow 0 30 3 v ps.length (pcs ps)) (hq : w.cell? ⟨q, 0, none⟩ = some (.int .i64 who)) (hm : ps.length ≤ 1000000) (hf : firstC who ps = -1) :
    Calls Try.prog 28 #[v, .func (.func 29) #[] #[.pointer (some ⟨q, 0, none⟩)]] w fun e w' => e = .returned v ∧ Below w.heap.size w w' := by
  have h1 := index_any q who v ps w hrow hq hm
  rw [hf] at h1
  obtain ⟨A, c, rfl⟩ := row_slice hrow
  have H1 := Lib.hid h1
  clear h1 hf hrow hq
  go_enter Try.func28, Try.ntmps28
  go_wp2_with fail
  refine H1.out.mono ?_
  rintro e w2 ⟨rfl, hb2⟩
  go_wp2_with fail
  go_ret
  exact ⟨rfl, hb2⟩

set_option maxRecDepth 100000 in
set_option maxHeartbeats 3200000 in
theorem delfunc_some (q : Nat) (who : Int) (g cap : Nat) (ps : List Pk) (w : World) (hrow : w.ownsRow 0 30 3 (.slice (some ⟨g, 0, none⟩) ps.length cap) ps.length (pcs ps)) (hqg : q ≠ g) (hq : w.cell? ⟨q, 0, none⟩ = some (.int .i64 who)) (hm : ps.length ≤ 1000000) (hf : firstC who ps ≠ -1) :
    Calls Try.prog 28 #[.slice (some ⟨g, 0, none⟩) ps.length cap, .func (.func 29) #[] #[.pointer (some ⟨q, 0, none⟩)]] w fun e w' =>
      e = .returned (.slice (some ⟨g, 0, none⟩) (keptL who ps).length cap) ∧ w'.ownsRow 0 30 3 (.slice (some ⟨g, 0, none⟩) (keptL who ps).length cap) (keptL who ps).length (pcs (keptL who ps)) ∧ w.grownBy w' (some g) := by
  have hql := cell_lt hq
  have h1 := index_any q who _ ps w hrow hq hm
  obtain ⟨i, hi, hfi, hci, hki⟩ := first_some hf
  rw [hfi] at h1
  have hne : ((i : Int) == (-1 : Int)) = false := beq_eq_false_iff_ne.2 (by omega)
  obtain ⟨hcap, hcm⟩ : ps.length ≤ cap ∧ cap ≤ 9223372036854775807 := by
    obtain ⟨_, _, e, _, h3, h4, _⟩ := row_at hrow hi
    cases e; exact ⟨h3, h4⟩
  have hmid : Mid w w g cap ps (ps.take i) (i + 1) := by
    rcases hrow.2 with ⟨e, _⟩ | ⟨g', cap', cur, e, _, hh, hle, hmx, hsz, htk⟩
    · cases e
    · cases e
      refine ⟨⟨cur, hh, hsz, fun t ht => ?_, fun t _ ht => ?_⟩, gb_refl _ _⟩
      · rw [List.length_take] at ht
        rw [← pcs_take, List.getElem?_take_of_lt (by omega), ← htk, List.getElem?_take_of_lt (by omega), Array.getElem?_toList]
      · rw [← htk, List.getElem?_take_of_lt (by omega), Array.getElem?_toList]
  rw [← hki] at hmid
  have H1 := Lib.hid h1
  have HM := Lib.hid hmid
  have HQ := Lib.hid hq
  have HKI := Lib.hid hki
  have hkl : (keptL who (ps.take (i + 1))).length = i := by rw [hki, List.length_take]; omega
  have HKL := Lib.hid hkl
  clear h1 hf hrow hq hmid hki hfi hci hkl
  have hnot : ∀ (x : Bool) (w : World), (Op.unary .not (.bool x)).run Try.prog w = .ok (.bool (!x)) w := fun _ _ => rfl
  go_enter Try.func28, Try.ntmps28
  go_wp2_with fail
  refine H1.out.mono ?_
  rintro e w2 ⟨rfl, hb2⟩
  have HM2 := Lib.hid (HM.out.below hb2)
  clear hb2
  go_wp2_with fail
  go_loopw [5, 6] (fun u j wr => ∃ jj : Nat, jj ≤ ps.length ∧ j = .int .i64 jj ∧ u = .int .i64 ((keptL who (ps.take jj)).length : Nat) ∧ (keptL who (ps.take jj)).length < jj ∧ Mid w wr g cap ps (keptL who (ps.take jj)) jj) (fun _ j _ => ps.length - (intOf j).toNat)
  case atStart => exact ⟨i + 1, by omega, by go_num, by rw [HKL.out], by rw [HKL.out]; omega, HM2.out⟩
  case round =>
    obtain ⟨j, hj, rfl, rfl, hlt, hmid⟩ := hrel
    rcases Nat.lt_or_ge j ps.length with hjl | hjg
    · obtain ⟨c0, c1, c2⟩ := hmid.cells hjl
      have hq' : wr.cell? ⟨q, 0, none⟩ = some (.int .i64 who) := hmid.grown.cell HQ.out (by simpa using hqg)
      have hks := kept_succ who ps j hjl
      obtain ⟨x, hx⟩ : ∃ x, ps[j] = x := ⟨_, rfl⟩
      rw [hx] at c0 c1 c2 hks
      generalize keptL who (ps.take j) = ks at *
      have hb3 : Below wr.heap.size wr (wr.alloc (.cells #[.int .i64 x.f, .int .i64 x.t, .string (bs x.d)] 30)) := (Below.refl _ wr).alloc (Nat.le_refl _) _
      have HC := Lib.hid (clo_any q who x _ (cell?_alloc_old hq' (.cells #[.int .i64 x.f, .int .i64 x.t, .string (bs x.d)] 30)))
      have hP := Blk.new wr 30 #[.int .i64 x.f, .int .i64 x.t, .string (bs x.d)]
      have HP := Lib.hid hP
      have HM3 := Lib.hid (hmid.below hb3)
      have HKS := Lib.hid hks
      have hgl := hmid.lt
      clear hq' hks hx hb3 hP hmid
      go_wp2_with fail
      refine HC.out.mono ?_
      rintro e w4 ⟨rfl, hb4⟩
      have hM4 := HM3.out.below hb4
      have hP4 := Blk.below HP.out hb4 (Blk.lt HP.out)
      obtain ⟨a0, a1, a2⟩ := blk3 hP4
      cases hcx : cutB who x with
      | true =>
        have HM5 := Lib.hid hM4
        clear hM4 hP4 hb4
        go_wp2_with fail
        have e1 : keptL who (ps.take (j + 1)) = ks := by rw [HKS.out, hcx]; simp
        exact ⟨⟨j + 1, by omega, by go_num, by rw [e1], by rw [e1]; omega, by rw [e1]; exact HM5.out.next⟩, by simp [intOf]; omega⟩
      | false =>
        obtain ⟨v0, s0⟩ := hM4.some_ (i := ks.length * 3) (by omega)
        obtain ⟨v1, s1⟩ := hM4.some_ (i := ks.length * 3 + 1) (by omega)
        obtain ⟨v2, s2⟩ := hM4.some_ (i := ks.length * 3 + 2) (by omega)
        have f0 := hM4.frozen (ks.length * 3)
        have f1 := hM4.frozen (ks.length * 3 + 1)
        have f2 := hM4.frozen (ks.length * 3 + 2)
        have HM5 := Lib.hid (hM4.put x hlt (by omega))
        have e1 : keptL who (ps.take (j + 1)) = ks ++ [x] := by rw [HKS.out, hcx]; simp
        have HE := Lib.hid e1
        have hil : ks.length < ps.length := by omega
        clear hM4 hP4 hb4 e1
        go_wp2_with fail
        exact ⟨⟨j + 1, by omega, by go_num, by rw [HE.out, List.length_append]; go_num, by rw [HE.out, List.length_append]; simp; omega, by rw [HE.out]; exact HM5.out.next⟩, by simp [intOf]; omega⟩
    · obtain rfl : j = ps.length := by omega
      rw [List.take_length] at hlt hmid ⊢
      obtain ⟨ks, hks⟩ : ∃ ks, ks = keptL who ps := ⟨_, rfl⟩
      rw [← hks] at hlt hmid ⊢
      have HKs := Lib.hid hks
      clear hks
      obtain ⟨m, hm'⟩ : ∃ m, m = ks.length := ⟨_, rfl⟩
      rw [← hm'] at hlt ⊢
      have hclr := run_clear_rows (P := Try.prog) wr 22 30 0 z30 3 Try.underlying22 zero30 rfl one30 g (m * 3) (ps.length - m) (cap - m) (by omega)
        (fun t ht => by obtain ⟨u, hu⟩ := hmid.some_ (i := m * 3 + t) (by omega); rw [hu]; rfl) (fun t _ => hmid.frozen _)
      have hzl : (Builtin.zeroCells z30.cells (ps.length - m)).toList.length = (ps.length - m) * 3 := by rw [Array.length_toList, size_zeroCells]; rfl
      generalize (Builtin.zeroCells z30.cells (ps.length - m)).toList = zs at *
      have HZl := Lib.hid hzl
      have HMd := Lib.hid hmid
      have HM' := Lib.hid hm'
      clear hzl hmid hm'
      have hmc : m ≤ cap := by omega
      have hml : m ≤ ps.length := by omega
      have hcm' : ¬ cap = m := by omega
      go_wp2_with fail
      obtain ⟨cur, h1, h2, h3, h4⟩ := HMd.out.ex
      obtain ⟨cur2, hB2, hs2, hc2⟩ := blk_setCells zs (m * 3) wr cur h1 (by rw [HZl.out, h2]; omega)
      refine bodyPost_ret (v := .slice (some ⟨g, 0, none⟩) m cap) (by simp [results, Try.results28, go_sem]) rfl ?_
      rw [← HKs.out, ← HM'.out]
      refine ⟨rfl, ⟨by rw [pcs_len, HM'.out], .inr ⟨g, cap, cur2, rfl, Nat.zero_le _, hB2, hmc, by unfold maxLen; omega, by rw [hs2, h2], ?_⟩⟩, gb_setCells _ _ _ HMd.out.grown⟩
      apply List.ext_getElem?
      intro t
      rcases Nat.lt_or_ge t (m * 3) with ht | ht
      · rw [List.getElem?_take_of_lt ht, Array.getElem?_toList, hc2, if_neg (by omega), h3 t (by rw [← HM'.out]; exact ht)]
      · rw [List.getElem?_eq_none (by simp; omega), List.getElem?_eq_none (by rw [pcs_len, ← HM'.out]; exact ht)]
end Go.Proofs.Ytnefjmgpbbgifaa
