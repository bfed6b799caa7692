/- The walk of Cut. -/
import Derived.Test.YtnefjmgpbbgifaaL2
namespace Go.Proofs.Ytnefjmgpbbgifaa
open Go.RowKit
attribute [local go_sem] bs_size bs_getElem bs_list bs_append

/-- DeleteFunc in one word -/
theorem delfunc_any (q : Nat) (who : Int) (v : Value) (ps : List Pk) (w : World) (hrow : w.ownsRow 0 30 3 v ps.length (pcs ps)) (hqv : v.ownBlock ≠ some q) (hq : w.cell? ⟨q, 0, none⟩ = some (.int .i64 who)) (hm : ps.length ≤ 1000000) :
    Calls Try.prog 28 #[v, .func (.func 29) #[] #[.pointer (some ⟨q, 0, none⟩)]] w fun e w' =>
      ∃ A' c', e = .returned (.slice A' (keptL who ps).length c') ∧ w'.ownsRow 0 30 3 (.slice A' (keptL who ps).length c') (keptL who ps).length (pcs (keptL who ps)) ∧ w.grownBy w' v.ownBlock ∧ (Value.slice A' (keptL who ps).length c').ownBlock = v.ownBlock := by
  by_cases hf : firstC who ps = -1
  · refine (delfunc_none q who v ps w hrow hq hm hf).mono ?_
    rintro e w' ⟨rfl, hb⟩
    rw [first_none hf]
    have h2 := row_below hrow hb
    obtain ⟨A, c, rfl⟩ := row_slice hrow
    exact ⟨A, c, rfl, h2, gb_of_below hb _, rfl⟩
  · obtain ⟨i, hi, _⟩ := first_some hf
    obtain ⟨g, cap, rfl, _⟩ := row_at hrow hi
    refine (delfunc_some q who g cap ps w hrow (fun e => hqv (by rw [e]; rfl)) hq hm hf).mono ?_
    rintro e w' ⟨rfl, ho, hg⟩
    exact ⟨_, cap, rfl, ho, hg, rfl⟩

set_option maxRecDepth 100000 in
set_option maxHeartbeats 3200000 in
theorem cut_any (gN : Nat) (d s : Int) (v : Value) (ps : List Pk) (who : Int) (w : World) (hN : NetI w gN d s v ps) (hm : ps.length ≤ 1000000) :
    Calls Try.prog 20 #[.pointer (some ⟨gN, 0, none⟩), .int .i64 who] w fun e w' => ∃ v', e = .returned (.int .i64 ((ps.length : Int) - ((keptL who ps).length : Nat))) ∧ NetI w' gN d s v' (keptL who ps) ∧ Keeps (NS gN v) w w' ∧ v'.ownBlock = v.ownBlock := by
  have hgl := hN.lt
  have hb1 : Below w.heap.size w (w.alloc (.cells #[.int .i64 who] 3)) := (Below.refl _ w).alloc (Nat.le_refl _) _
  have hN1 := hN.below hb1
  have hq : (w.alloc (.cells #[.int .i64 who] 3)).cell? ⟨w.heap.size, 0, none⟩ = some (.int .i64 who) := (Blk.new w 3 #[.int .i64 who]).cell 0
  have hvq : v.ownBlock ≠ some w.heap.size := fun h => by have := own_lt hN.own h; omega
  have hD := delfunc_any w.heap.size who v ps _ hN1.own hvq hq hm
  have hc1 := hN1.c1
  obtain ⟨A, c, hv⟩ := hN.slice
  have hkl : (keptL who ps).length ≤ ps.length := List.length_filter_le _ _
  have HD := Lib.hid hD
  have HN1 := Lib.hid hN1
  have HB1 := Lib.hid hb1
  have HV := Lib.hid hv
  rw [hv] at hc1
  have hmf : ∀ (fn : Fn) (first cap : Array Value) (w : World), (Instr.makeFunc fn first cap).run Try.prog w = .ok (.func fn first cap) w := fun _ _ _ _ => rfl
  clear hD hN hN1 hb1 hv hq hvq
  go_enter Try.func20, Try.ntmps20
  go_wp2_with fail
  rw [← HV.out]
  refine HD.out.mono ?_
  rintro e w2 ⟨A', c', rfl, ho2, hg2, hob⟩
  have hblk2 := Blk.grown HN1.out.blk hg2 (fun h => HN1.out.far h.symm)
  have hc2 : w2.cell? ⟨gN, 1, none⟩ = some v := hblk2.cell 1
  have hf2 := hblk2.frozen 1
  generalize hkk : (keptL who ps).length = m at *
  have hblk3 := Blk.set_ hblk2 1 (.slice A' m c')
  have ho3 := own_kp (w' := w2.setCell ⟨gN, 1, none⟩ (.slice A' m c')) ho2 (kp_set (kp_refl (fun i => i = gN) w2) _ _ (fun _ => rfl)) (fun g' h hh => by rw [hob] at h; exact HN1.out.far (by rw [h, hh]))
  have hN3 : NetI (w2.setCell ⟨gN, 1, none⟩ (.slice A' m c')) gN d s (.slice A' m c') (keptL who ps) := ⟨hblk3, by rw [hkk]; exact ho3, by rw [hob]; exact HN1.out.far⟩
  have hc3 := hN3.c1
  have hk3 := kp_set (kp_trans (kp_below (S := NS gN v) HB1.out) (kp_grown (S := NS gN v) hg2 (fun i h => Or.inr h)) (fun _ _ h => h)) ⟨gN, 1, none⟩ (.slice A' m c') (fun _ => Or.inl rfl)
  have HN3 := Lib.hid hN3
  have HK3 := Lib.hid hk3
  have HO := Lib.hid hob
  clear hN3 hk3 hob ho3 hblk3 hblk2 ho2 hg2
  go_wp2_with fail
  go_ret
  exact ⟨_, by rw [hkk]; rfl, HN3.out, HK3.out, HO.out⟩
end Go.Proofs.Ytnefjmgpbbgifaa
