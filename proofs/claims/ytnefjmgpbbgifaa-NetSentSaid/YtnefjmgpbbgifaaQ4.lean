/- The document's net: Cut. -/
import Derived.Test.YtnefjmgpbbgifaaQ3
namespace Go.Proofs.Ytnefjmgpbbgifaa
open Go.RowKit
attribute [local go_sem] bs_size bs_getElem bs_list bs_append

theorem own_base {w : World} {B n : Nat} {v : Value} {xs : List Value} (h : w.ownsRow B 30 3 v n xs) : w.ownsRow 0 30 3 v n xs := by
  refine ⟨h.1, ?_⟩
  rcases h.2 with h0 | ⟨g, cap, cur, e, _, rest⟩
  · exact .inl h0
  · exact .inr ⟨g, cap, cur, e, Nat.zero_le _, rest⟩
theorem own_ge {w : World} {B n : Nat} {v : Value} {xs : List Value} (h : w.ownsRow B 30 3 v n xs) : ∀ q, v.ownBlock = some q → B ≤ q := by
  intro q hq
  rcases h.2 with ⟨rfl, _⟩ | ⟨g, cap, cur, rfl, hb, _⟩
  · simp [Value.ownBlock] at hq
  · simp [Value.ownBlock] at hq; omega
theorem own_slice {w : World} {B n : Nat} {v : Value} {xs : List Value} (h : w.ownsRow B 30 3 v n xs) : ∃ A c, v = .slice A n c := by
  rcases h.2 with ⟨rfl, rfl⟩ | ⟨g, cap, cur, rfl, _⟩
  · exact ⟨none, 0, rfl⟩
  · exact ⟨_, cap, rfl⟩

set_option maxRecDepth 100000 in
set_option maxHeartbeats 1600000 in
theorem rcut_any (gR : Nat) (d s : Int) (v : Value) (ps : List Pk) (who : Int) (w : World) (hN : RefI w gR d s v ps) (hm : ps.length ≤ 1000000) :
    Calls Try.prog 21 #[.pointer (some ⟨gR, 0, none⟩), .int .i64 who] w fun e w' => ∃ v', e = .returned (.int .i64 ((ps.length : Int) - ((keptL who ps).length : Nat))) ∧ RefI w' gR d s v' (keptL who ps) ∧ Keeps (NS gR v) w w' ∧ At w v v' := by
  obtain ⟨i0, hi0, hz0, hz1, hz2⟩ := info_parts info30
  have hlt := hN.lt
  have hblk := hN.blk
  have hcell : ∀ k (hk : k < ps.length), ∃ g cap, v = .slice (some ⟨g, 0, none⟩) ps.length cap ∧ g < w.heap.size ∧ cap ≤ 9223372036854775807 ∧
      w.cell? ⟨g, k * 3, none⟩ = some (.int .i64 ps[k].f) ∧ w.cell? ⟨g, k * 3 + 1, none⟩ = some (.int .i64 ps[k].t) ∧ w.cell? ⟨g, k * 3 + 2, none⟩ = some (.string (bs ps[k].d)) := by
    intro k hk
    obtain ⟨g, cap, e, _, hg, a0, a1, a2⟩ := hN.at hk
    obtain ⟨A, c, e2, h⟩ := hN.slice
    rw [e] at e2; cases e2
    exact ⟨g, cap, e, hg, by have := h.2; unfold maxLen at this; omega, a0, a1, a2⟩
  obtain ⟨A, c, hv, _⟩ := hN.slice
  have hkl : ∀ q, (keptL who (ps.take q)).length ≤ ps.length := fun q => Nat.le_trans (List.length_filter_le _ _) (List.length_take_le' _ _)
  have HC := Lib.hid hcell
  have HV := Lib.hid hv
  have HBl := Lib.hid hblk
  have HN := Lib.hid hN
  clear hcell hN hv hblk
  go_enter Try.func21, Try.ntmps21
  go_wp2_with fail
  go_loopw [5, 6] (fun l i ws => ∃ q : Nat, q ≤ ps.length ∧ i = .int .i64 q ∧ ws.ownsRow w.heap.size 30 3 l (keptL who (ps.take q)).length (pcs (keptL who (ps.take q))) ∧ Below w.heap.size w ws) (fun _ i _ => ps.length - (intOf i).toNat)
  case atStart => exact ⟨0, by omega, rfl, ⟨by simp [pcs, keptL], .inl ⟨rfl, by simp [keptL]⟩⟩, Below.refl _ _⟩
  case round =>
    obtain ⟨q, hq, rfl, hO, hb⟩ := hrel
    have hcR : wr.cell? ⟨gR, 0, none⟩ = some v := by
      have := (HBl.out.below hb hlt).cell 0
      exact this.trans rfl
    have hs := hb.size
    rcases Nat.lt_or_ge q ps.length with hqlt | hqge
    · obtain ⟨g, cap, rfl, hg, hcp, b0, b1, b2⟩ := HC.out q hqlt
      have a0 := cell_below hb hg b0
      have a1 := cell_below hb hg b1
      have a2 := cell_below hb hg b2
      have htk := List.take_succ_eq_append_getElem hqlt
      generalize hx : ps[q] = x at *
      have hqi : (q : Int) < (ps.length : Int) := by omega
      cases hcut : cutB who x with
      | true =>
        have hnext : keptL who (ps.take (q + 1)) = keptL who (ps.take q) := by rw [htk]; simp [keptL, hcut]
        rw [cutB_eq] at hcut
        have HO := Lib.hid hO
        have HB := Lib.hid hb
        have HNx := Lib.hid hnext
        clear hO hb hnext htk b0 b1 b2 hx
        by_cases hf : x.f = who
        · have hd : (x.f != who) = false := by rw [bne_eq_false_iff_eq]; exact hf
          clear hcut hf
          go_wp2_with fail
          exact ⟨⟨q + 1, by omega, by go_num, by rw [HNx.out]; exact HO.out, HB.out⟩, by simp [intOf]; omega⟩
        · have hd : (x.f != who) = true := by rw [bne_iff_ne]; exact hf
          have ht : (x.t != who) = false := by
            rw [bne_eq_false_iff_eq]
            simp [hf] at hcut
            exact hcut
          clear hcut hf
          go_wp2_with fail
          exact ⟨⟨q + 1, by omega, by go_num, by rw [HNx.out]; exact HO.out, HB.out⟩, by simp [intOf]; omega⟩
      | false =>
        have hnext : keptL who (ps.take (q + 1)) = keptL who (ps.take q) ++ [x] := by rw [htk]; simp [keptL, hcut]
        rw [cutB_eq] at hcut
        simp at hcut
        have hd : (x.f != who) = true := by rw [bne_iff_ne]; exact hcut.1
        have ht : (x.t != who) = true := by rw [bne_iff_ne]; exact hcut.2
        have hkq := hkl q
        have HO := Lib.hid hO
        have HB := Lib.hid hb
        have HNx := Lib.hid hnext
        have hno := Lib.hid (own_ge hO)
        clear hO hb hnext htk b0 b1 b2 hcut hx
        go_wp2_with (at_builtin; refine wpList_append_own_at _ rfl (.tmp 39) (.tmp 47) 22 rfl w.heap.size 30 i0 _ 3 32 Try.underlying22 hi0 hz0 hz1 hz2 rfl (by decide) _ (keptL who (ps.take q)).length _ rfl (HO.out.alloc _) ⟨wr.heap.size, 0, none⟩ 1 1 [.int .i64 x.f, .int .i64 x.t, .string (bs x.d)] rfl rfl ?c2 (by simp [Value.oneCell']) ?c3 ?c4 ?c5 ?_)
        case c2 => exact World.news_of_block (cs := #[.int .i64 x.f, .int .i64 x.t, .string (bs x.d)]) (t := 30) (fr := (0, 0)) (heap_alloc_new wr _)
        case c3 => unfold maxLen; omega
        case c4 => omega
        case c5 => simp; omega
        intro l' w1 hO1 hg1 _ hat1
        have hb1 : Below w.heap.size w w1 := (HB.out.alloc hs _).grown hg1 (by simp; omega) (fun q hq => hno.out q hq)
        have e1 : (keptL who (ps.take (q + 1))).length = (keptL who (ps.take q)).length + 1 := by rw [HNx.out]; simp
        have e2 : pcs (keptL who (ps.take (q + 1))) = pcs (keptL who (ps.take q)) ++ [.int .i64 x.f, .int .i64 x.t, .string (bs x.d)] := by rw [HNx.out, pcs_append]; simp [pcs, pc]
        rw [← e1, ← e2] at hO1
        have HO1 := Lib.hid hO1
        have HB1 := Lib.hid hb1
        clear hO1 hb1 hg1 hat1 e1 e2
        go_wp2_with fail
        exact ⟨⟨q + 1, by omega, by go_num, HO1.out, HB1.out⟩, by simp [intOf]; omega⟩
    · have hqe : q = ps.length := by omega
      rw [hqe, List.take_length] at hO
      have hge := own_ge hO
      have hbR := HBl.out.below hb hlt
      have hkl2 : (keptL who ps).length ≤ ps.length := List.length_filter_le _ _
      obtain ⟨A9, c9, rfl⟩ := own_slice hO
      have hz := hbR.frozen 0
      have hR : RefI (wr.setCell ⟨gR, 0, none⟩ (.slice A9 (keptL who ps).length c9)) gR d s (.slice A9 (keptL who ps).length c9) (keptL who ps) :=
        ⟨hbR.set_ 0 _, own_kp (own_base hO) (kp_set (kp_refl (fun i => i = gR) wr) _ _ (fun _ => rfl)) (fun q hq h => by have := hge q hq; omega), fun h => by have := hge _ h; omega⟩
      have hK : Keeps (NS gR v) w (wr.setCell ⟨gR, 0, none⟩ (.slice A9 (keptL who ps).length c9)) := kp_set (kp_below hb) _ _ (fun _ => Or.inl rfl)
      have hA : At w v (.slice A9 (keptL who ps).length c9) := fun q hq => .inr (hge q hq)
      have hw : wrap64 ((ps.length : Int) - ((keptL who ps).length : Nat)) = (ps.length : Int) - ((keptL who ps).length : Nat) := by unfold wrap64; omega
      generalize hks : keptL who ps = ks at *
      have HKS := Lib.hid hks
      clear hks
      have HE := Lib.hid (And.intro hR (And.intro hK hA))
      rw [HV.out] at hcR
      have hvv := HV.out
      clear hO hb hR hK hA hge hbR
      go_wp2_with fail
      go_ret
      rw [HKS.out]
      exact ⟨_, rfl, HE.out⟩
end Go.Proofs.Ytnefjmgpbbgifaa
