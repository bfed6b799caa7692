/- The walk of MoveRedoes. -/
import Derived.Test.YtaglomhmnoldlaaAx
namespace Go.Proofs.Ytaglomhmnoldlaa
open Go.RowKit
attribute [local go_sem] bs_size bs_getElem bs_list bs_append

def rdOp (i : Int) : TOp := ⟨(i, 0), 0, 1, (i, 0), true, (0, 0), [97], []⟩
def rdL (k : Nat) : List TOp := (List.range k).map fun j : Nat => rdOp ((j : Int) + 2)
theorem rdL_succ (k : Nat) : rdL (k + 1) = rdL k ++ [rdOp ((k : Int) + 2)] := by unfold rdL; rw [List.range_succ, List.map_append]; rfl
theorem rdL_len (k : Nat) : (rdL k).length = k := by simp [rdL]
theorem rdL_at {k j : Nat} (h : j < (rdL k).length) : (rdL k)[j] = rdOp ((j : Int) + 2) := by simp [rdL]
theorem rdL_sorted (k : Nat) : Sorted (rdL k) := by
  unfold Sorted
  rw [List.pairwise_iff_getElem]
  intro i j hi hj hij
  rw [rdL_at, rdL_at]
  unfold lessS rdOp
  simp
  omega
theorem rd_right {i : Int} (h1 : 1 ≤ i) (h2 : i ≤ 1000) : rightS (rdOp i).st = true := by
  unfold rightS rdOp
  simp
  omega
theorem rd_short (i : Int) : OpS (rdOp i) := ⟨by simp [rdOp], by simp [rdOp]⟩
theorem rd_at (k : Nat) : atO (rdL k) (rdOp ((k : Int) + 2)).st = k := by
  unfold atO
  refine takeWhile_len _ _ _ (by rw [rdL_len]; exact Nat.le_refl _) (fun j hj hlt => ?_) (fun j hj hle => ?_)
  · rw [rdL_at]
    unfold lessS rdOp
    simp
    omega
  · rw [rdL_len] at hj; omega
theorem rd_next {k : Nat} (h : k < 100) : codeO (rdL k) (rdOp ((k : Int) + 2)) = 0 ∧ insO (rdL k) (rdOp ((k : Int) + 2)) = rdL (k + 1) ∧ ∀ r, redO r (rdL k) (rdOp ((k : Int) + 2)) = 0 := by
  have hh : hasO (rdL k) (rdOp ((k : Int) + 2)).st = false := by
    unfold hasO
    rw [rd_at]
    simp [rdL_len]
  have hc : codeO (rdL k) (rdOp ((k : Int) + 2)) = 0 := codeO_zero.2 ⟨rd_right (by omega) (by omega), hh, by rw [rdL_len]; omega⟩
  refine ⟨hc, ?_, fun r => ?_⟩
  · unfold insO
    rw [if_pos hc]
    unfold addO
    rw [rd_at, rdL_succ, List.take_of_length_le (by rw [rdL_len]; exact Nat.le_refl _), List.drop_of_length_le (by rw [rdL_len]; exact Nat.le_refl _)]
  · unfold redO
    rw [if_pos hc, rd_at, rdL_len]
    omega
theorem rd_first {k : Nat} (h : k ≤ 100) : codeO (rdL k) (rdOp 1) = 0 ∧ insO (rdL k) (rdOp 1) = rdOp 1 :: rdL k ∧ ∀ r, redO r (rdL k) (rdOp 1) = k := by
  have ha : atO (rdL k) (rdOp 1).st = 0 := by
    unfold atO
    refine takeWhile_len _ _ _ (Nat.zero_le _) (fun j hj hlt => by omega) (fun j hj hle => ?_)
    rw [rdL_at]
    unfold lessS rdOp
    simp
    omega
  have hh : hasO (rdL k) (rdOp 1).st = false := by
    cases h1 : hasO (rdL k) (rdOp 1).st with
    | false => rfl
    | true =>
      obtain ⟨y, hy, he⟩ := (hasO_iff (rdL_sorted k)).1 h1
      obtain ⟨j, hj, rfl⟩ := List.getElem_of_mem hy
      rw [rdL_at] at he
      have := congrArg Prod.fst he
      simp [rdOp] at this
      omega
  have hc : codeO (rdL k) (rdOp 1) = 0 := codeO_zero.2 ⟨by decide, hh, by rw [rdL_len]; omega⟩
  refine ⟨hc, ?_, fun r => ?_⟩
  · unfold insO
    rw [if_pos hc]
    unfold addO
    rw [ha]
    rfl
  · unfold redO
    rw [if_pos hc, ha, rdL_len]
    omega
theorem made_ids : ∀ (L : List TOp) (es : List Nd), (∀ x ∈ L, x.kind = 1) → (ids es ++ L.map (·.node)).Nodup → ids (L.foldl doE es) = ids es ++ L.map (·.node)
  | [], es, _, _ => by simp
  | x :: L, es, hk, hu => by
    have h1 : x.kind = 1 := hk x List.mem_cons_self
    have hnot : x.node ∉ ids es := by
      rw [List.map_cons, List.nodup_append] at hu
      exact fun h => hu.2.2 _ h _ List.mem_cons_self rfl
    have hh : hasN x.node es = false := by
      cases hc : hasN x.node es with
      | false => rfl
      | true =>
        obtain ⟨i, hi, _, _, h3⟩ := has_idx hc
        exact absurd (h3 ▸ List.mem_map_of_mem (f := Nd.id) (List.getElem_mem hi)) hnot
    have hd : ids (doE es x) = ids es ++ [x.node] := by
      unfold doE doR nextP
      rw [if_pos h1, hh]
      simp only [Bool.not_false, if_true]
      exact ids_put_hasnt (n := ⟨x.node, x.dir, _, x.nm, x.mf⟩) hh
    have := made_ids L (doE es x) (fun y hy => hk y (List.mem_cons_of_mem _ hy)) (by rw [hd]; simpa [List.append_assoc] using hu)
    rw [List.foldl_cons, this, hd]
    simp
theorem rd_nodes (n : Nat) : (foldN (rdOp 1 :: rdL n)).length = n + 1 := by
  rw [(foldN_perm _).length_eq]
  have h : ids (foldE (rdOp 1 :: rdL n)) = [] ++ (rdOp 1 :: rdL n).map (·.node) := made_ids _ [] (fun x hx => by
    rcases List.mem_cons.1 hx with rfl | hx
    · rfl
    · obtain ⟨j, hj, rfl⟩ := List.getElem_of_mem hx
      rw [rdL_at]; rfl) (by
    show (List.map (·.node) (rdOp 1 :: rdL n)).Nodup
    rw [List.Nodup, List.pairwise_map, List.pairwise_cons]
    constructor
    · intro x hx
      obtain ⟨j, hj, rfl⟩ := List.getElem_of_mem hx
      rw [rdL_at]
      simp [rdOp]
      omega
    · rw [List.pairwise_iff_getElem]
      intro i j hi hj hij
      rw [rdL_at, rdL_at]
      simp [rdOp]
      omega)
  have := congrArg List.length h
  simp [ids, rdL_len] at this
  omega

set_option maxRecDepth 100000 in
set_option maxHeartbeats 3200000 in
theorem law_redoes (n : Int) (w : World) : Calls Try.prog 3 #[.int .i64 n] w fun e w' => e = .returned (.bool true) ∧ Below w.heap.size w w' := by
  have AW : RowKit.Hid (∀ w2, Below w.heap.size w w2 → Calls Try.prog 9 #[] w2 fun e w' => e = .returned (.bool true) ∧ Below w.heap.size w w') := Lib.hid (fun w2 hb => (awake_any w2).mono fun e w9 h => ⟨h.1, hb.trans (h.2.mono hb.size)⟩)
  have HBr := Lib.hid (Below.refl w.heap.size w)
  cases q1 : decide (n < 0) with
  | true =>
    go_enter Try.func3, Try.ntmps3
    go_wp2_with fail
    refine (AW.out _ HBr.out).mono ?_
    rintro e w9 ⟨rfl, hb9⟩
    have HB9 := Lib.hid hb9
    clear hb9
    go_wp2_with fail
    go_ret
    exact ⟨rfl, HB9.out⟩
  | false =>
  cases q2 : decide (n > 100) with
  | true =>
    go_enter Try.func3, Try.ntmps3
    go_wp2_with fail
    refine (AW.out _ HBr.out).mono ?_
    rintro e w9 ⟨rfl, hb9⟩
    have HB9 := Lib.hid hb9
    clear hb9
    go_wp2_with fail
    go_ret
    exact ⟨rfl, HB9.out⟩
  | false =>
  have h1 := of_decide_eq_false q1
  have h2 := of_decide_eq_false q2
  obtain ⟨m, rfl⟩ : ∃ m : Nat, n = m := ⟨n.toNat, by omega⟩
  have HM := Lib.hid (show m ≤ 100 by omega)
  have HNew := Lib.hid (new_live w)
  clear h1 h2
  go_enter Try.func3, Try.ntmps3
  go_upto_region 3 with (fail)
  clear q1 q2
  go_wp2_with fail
  refine HNew.out.mono ?_
  rintro e w1 ⟨rfl, hl⟩
  have HL1 := Lib.hid hl
  clear hl
  generalize hp : w.heap.size + 1 = p at *
  go_wp2_with fail
  refine (redone_live HL1.out).mono ?_
  rintro e w2 ⟨rfl, rfl⟩
  go_wp2_with fail
  go_loopw [4] (fun i wr => ∃ (k : Nat) (v : Value), k ≤ m ∧ i = .int .i64 k ∧ RowKit.Hid (Live w wr p w.heap.size v 0 (rdL k))) (fun i _ => m - (intOf i).toNat)
  case atStart => exact ⟨0, _, Nat.zero_le _, rfl, HL1⟩
  case round =>
    obtain ⟨k, v, hk, rfl, HLr⟩ := hrel
    rcases Nat.lt_or_ge k m with hlt | hge
    · have hki : (k : Int) < (m : Int) := by omega
      have hk100 : k ≤ 100 := by have := HM.out; omega
      have hnx := rd_next (k := k) (by have := HM.out; omega)
      have HNx := Lib.hid hnx
      have h1 : Below wr.heap.size wr (wr.alloc (.cells #[.int .i64 ((k : Int) + 2), .int .i64 0] 27)) := (Below.refl _ wr).alloc (Nat.le_refl _) _
      have HL2 := Lib.hid (HLr.out.then_ h1)
      clear h1 hnx
      go_upto_region 10 with (fail)
      have HI := Lib.hid (insert_live (rdOp ((k : Int) + 2)) (rd_short _) _ _ _ _ _ _ _ HL2.out)
      go_wp2_with fail
      refine HI.out.mono ?_
      rintro e w5 ⟨v5, rfl, hl, _, _⟩
      rw [HNx.out.1]
      rw [HNx.out.2.1, HNx.out.2.2] at hl
      have HL5 := Lib.hid hl
      clear hl HI
      go_wp2_with fail
      refine (redone_live HL5.out).mono ?_
      rintro e w6 ⟨rfl, rfl⟩
      go_wp2_with fail
      exact ⟨⟨k + 1, _, by omega, by go_num, HL5⟩, by simp [intOf]; omega⟩
    · obtain rfl : k = m := by omega
      have hki : ¬ (k : Int) < (k : Int) := by omega
      have hnx := rd_first (k := k) HM.out
      have HNx := Lib.hid hnx
      have HNd := Lib.hid (rd_nodes k)
      have h1 : Below wr.heap.size wr (wr.alloc (.cells #[.int .i64 1, .int .i64 0] 27)) := (Below.refl _ wr).alloc (Nat.le_refl _) _
      have HL2 := Lib.hid (HLr.out.then_ h1)
      clear h1 hnx
      go_upto_region 13 with (fail)
      have HI := Lib.hid (insert_live (rdOp 1) (rd_short _) _ _ _ _ _ _ _ HL2.out)
      go_wp2_with fail
      refine HI.out.mono ?_
      rintro e w5 ⟨v5, rfl, hl, _, _⟩
      rw [HNx.out.1]
      rw [HNx.out.2.1, HNx.out.2.2] at hl
      have HL5 := Lib.hid hl
      clear hl HI
      go_wp2_with fail
      refine (redone_live HL5.out).mono ?_
      rintro e w6 ⟨rfl, rfl⟩
      have HN5 := Lib.hid (nodes_live HL5.out)
      go_wp2_with fail
      refine HN5.out.mono ?_
      rintro e w7 ⟨A7, c7, rfl, _, hb7⟩
      rw [HNd.out]
      have hk100 : k ≤ 100 := HM.out
      have HB7 := Lib.hid (HL5.out.then_ hb7).below
      clear hb7
      go_wp2_with fail
      refine (AW.out _ HB7.out).mono ?_
      rintro e w9 ⟨rfl, hb9⟩
      have HB9 := Lib.hid hb9
      clear hb9
      go_wp2_with fail
      go_ret
      exact ⟨rfl, HB9.out⟩
end Go.Proofs.Ytaglomhmnoldlaa
