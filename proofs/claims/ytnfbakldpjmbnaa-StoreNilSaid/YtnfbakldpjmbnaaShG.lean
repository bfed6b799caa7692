/- The walk of the program's Sum. -/
import Derived.Test.YtnfbakldpjmbnaaShF
import Derived.Test.YtnfbakldpjmbnaaShC
import Derived.Test.YtnfbakldpjmbnaaShSumL
namespace Go.Proofs.Ytnfbakldpjmbnaa
open Go.RowKit
attribute [local go_sem] bs_size bs_getElem bs_list bs_append

theorem start_cells : #[Value.int .u64 7640891576956012808, .int .u64 13503953896175478587, .int .u64 4354685564936845355, .int .u64 11912009170470909681, .int .u64 5840696475078001361, .int .u64 11170449401992604703, .int .u64 2270897969802886507, .int .u64 6620516959819538809] = av start := by kernel_rfl

theorem pressAll_ok {v : V8} (h : v.ok) (s : List UInt8) : ∀ n, (pressAll v s n).ok
  | 0 => h
  | _ + 1 => addV_ok _ _
theorem index_av (V : V8) (k : Nat) (h : k < 8) (w : World) : (Instr.index 73 (.agg (av V)) (.int .i64 (k : Int))).run Try.prog w = .ok (.int .u64 ((V.list.getD k 0 : Nat) : Int)) w := by
  have h8 : k = 0 ∨ k = 1 ∨ k = 2 ∨ k = 3 ∨ k = 4 ∨ k = 5 ∨ k = 6 ∨ k = 7 := by omega
  rcases h8 with rfl | rfl | rfl | rfl | rfl | rfl | rfl | rfl <;> rfl
theorem bytes_snoc (V : V8) (k : Nat) (h : k < 8) : (V.list.take (k + 1)).flatMap be8 = (V.list.take k).flatMap be8 ++ be8 (V.list.getD k 0) := by
  have hl : k < V.list.length := h
  rw [List.take_succ_eq_append_getElem hl, List.flatMap_append]
  simp [List.getD_eq_getElem?_getD, List.getElem?_eq_getElem hl]
theorem bytesV_len (V : V8) : (bytesV V).length = 64 := by simp [bytesV, V8.list, be8]
def vlen : Value → Nat
  | .slice _ n _ => n
  | _ => 0
theorem zeros_lt (n k : Nat) (h : k < zerosOf n) : (n + 1 + k) % 128 ≠ 112 := by unfold zerosOf at h; omega
theorem zeros_eq (n : Nat) : (n + 1 + zerosOf n) % 128 = 112 := by unfold zerosOf; omega
theorem zeros_le (n : Nat) : zerosOf n < 128 := by unfold zerosOf; omega
theorem store8o {P : Program} {ops : Array Oper} {rest : List Oper} {o : Oper} {a : Act} {w : World} {Q : Exit → Act → World → Prop} (hgd : o.guard = none) (ty : TypeId) (x y : Operand) (ho : o.op = .store ty x y)
    (g : Nat) (v : V8) (x0 x1 x2 x3 x4 x5 x6 x7 : Int) (hx : a.eval x = .pointer (some ⟨g, 0, none⟩)) (hy : a.eval y = .agg #[.int .u64 x0, .int .u64 x1, .int .u64 x2, .int .u64 x3, .int .u64 x4, .int .u64 x5, .int .u64 x6, .int .u64 x7])
    (he : #[Value.int .u64 x0, .int .u64 x1, .int .u64 x2, .int .u64 x3, .int .u64 x4, .int .u64 x5, .int .u64 x6, .int .u64 x7] = av v)
    (t : TypeId) (old : Array Value) (hg : w.heap[g]? = some (.cells old t (0, 0))) (hi : (P.info? ty).map (·.size) = some 8) (hold : old.size = 8)
    (h : ∀ w', Blk w' g t (av v) → w.grownBy w' (some g) → w'.heap.size = w.heap.size → wpList P ops Q rest (a.put o.dst undef) w') : wpList P ops Q (o :: rest) a w :=
  store8 hgd ty x y ho g x0 x1 x2 x3 x4 x5 x6 x7 hx hy t old hg hi hold (h _ (by rw [he]; exact Blk.setRow hg _) (gb_setRow (gb_refl _ _) (.inl rfl) _) (by simp))

set_option maxRecDepth 100000 in
set_option maxHeartbeats 1600000 in
theorem sum_any (l : List UInt8) (hl : l.length ≤ 100000) (S : List UInt8) (HSS : Hid (sumL l = S)) (w : World) :
    Calls Try.prog 21 #[.string (bs l)] w fun e w' => e = .returned (.string (bs S)) ∧ Below w.heap.size w w' := by
  obtain ⟨i0, hi, hz0, hz1, hz2⟩ := info_parts info5
  have HI := Lib.hid hi
  have HZ0 := Lib.hid hz0
  have HZ1 := Lib.hid hz1
  have HZ2 := Lib.hid hz2
  have h26 : (Try.prog.info? 73).map (·.size) = some 8 := by kernel_rfl
  have hN : Blk (w.alloc (.cells #[.int .u64 0, .int .u64 0, .int .u64 0, .int .u64 0, .int .u64 0, .int .u64 0, .int .u64 0, .int .u64 0] 73)) w.heap.size 73 #[.int .u64 0, .int .u64 0, .int .u64 0, .int .u64 0, .int .u64 0, .int .u64 0, .int .u64 0, .int .u64 0] := Blk.new _ _ _
  have HL := Lib.hid hl
  clear hi hz0 hz1 hz2 hl
  go_enter Try.func21, Try.ntmps21
  go_wp2_with (refine store8o rfl 73 _ _ rfl w.heap.size start _ _ _ _ _ _ _ _ rfl rfl start_cells 73 _ hN h26 rfl ?_)
  intro W1 hH hg1 hs1
  have hb1 : Below w.heap.size w W1 := below_gb ((Below.refl _ w).alloc (Nat.le_refl _) _) hg1 (Nat.le_refl _) (by simp)
  clear hN hg1
  go_wp2_with (refine wpList_bytes_C _ rfl 9 62 5 _ rfl Try.underlying9 Try.underlying62 Try.underlying5 l rfl (by have := HL.out; unfold maxLen; omega) ?_)
  intro g cap W2 hgw hO hb2 hs2
  have hH2 : Blk W2 w.heap.size 73 (av start) := hH.below hb2 (by omega)
  have hb3 : Below w.heap.size w W2 := hb1.trans (hb2.mono (by omega))
  have HO := Lib.hid hO
  have HH := Lib.hid hH2
  have HB := Lib.hid hb3
  have HG := Lib.hid hgw
  clear hO hH hH2 hb1 hb2 hb3 hs1 hgw
  go_wp2_with (at_builtin; refine wpList_append_C _ rfl (.tmp 12) (.tmp 13) 62 62 rfl 5 i0 (.int .u8 0) 1 Try.underlying62 HI.out HZ0.out HZ1.out rfl (by decide) (w.heap.size + 1) _ l.length (bv l) rfl (HO.out.alloc _) (.slice (some ⟨_, 0, none⟩) 1 1) rfl 1 (bv [128]) ?c1 ?c3 ?c4 ?c5 ?_)
  case c1 => exact Src.one Try.underlying62 (by rw [← hs2]; simp) rfl
  case c3 => have := HL.out; unfold maxLen; omega
  case c4 => have := HL.out; rw [HZ2.out]; omega
  case c5 => simp; omega
  intro v1 W3 hO hg hat
  have hgr : Grew W2 (.slice (some ⟨g, 0, none⟩) l.length cap) W3 v1 := (Grew.alloc _ _ _).trans (Grew.step hg hat (by simp [hs2]))
  have hH3 := hgr.blk HH.out (by simp [Value.ownBlock, HG.out])
  have hb4 := hgr.toBelow HB.out (by omega) (by simp [Value.ownBlock, HG.out])
  have hs3 := hgr.1.size
  clear hg hat hgr HO HH HB
  rw [← bv_append] at hO
  have HO := Lib.hid hO
  have HH := Lib.hid hH3
  have HB := Lib.hid hb4
  clear hO hH3 hb4
  go_wp2_with fail
  go_loopw [4] (fun v wr => ∃ k : Nat, k ≤ zerosOf l.length ∧ OwnC wr (w.heap.size + 1) 1 v (l.length + 1 + k) (bv (l ++ 128 :: List.replicate k 0)) ∧ Blk wr w.heap.size 73 (av start) ∧ Below w.heap.size w wr ∧ w.heap.size + 2 ≤ wr.heap.size) (fun v _ => l.length + 1 + zerosOf l.length - vlen v)
  case atStart => exact ⟨0, Nat.zero_le _, HO.out, HH.out, HB.out, by omega⟩
  case round =>
    obtain ⟨k, hk, hO, hH, hb, hs⟩ := hrel
    have hBw : w.heap.size + 1 ≤ wr.heap.size := by omega
    obtain ⟨N, hN⟩ : ∃ N, N = l.length + 1 + k := ⟨_, rfl⟩
    have HN := Lib.hid hN
    have hNl : N ≤ 100200 := by have := zeros_le l.length; have := HL.out; omega
    rw [← hN] at hO
    obtain ⟨g4, c4, rfl, hg4, hlt4, hnc4, hcm4, hx4, hf4⟩ := hO.form (by omega)
    rcases Nat.lt_or_ge k (zerosOf l.length) with hlt | hge
    · have hne := zeros_lt l.length k hlt
      rw [← hN] at hne
      have hd : ((N : Int) % 128 != 112) = true := by rw [bne_iff_ne]; omega
      clear hne hx4 hf4 hlt4 hnc4 hcm4 hN
      have HO := Lib.hid hO
      have HH := Lib.hid hH
      have HB := Lib.hid hb
      clear hO hH hb
      go_wp2_with (at_builtin; refine wpList_append_C _ rfl (.tmp 19) (.tmp 20) 62 62 rfl 5 i0 (.int .u8 0) 1 Try.underlying62 HI.out HZ0.out HZ1.out rfl (by decide) (w.heap.size + 1) _ N _ rfl (HO.out.alloc _) (.slice (some ⟨wr.heap.size, 0, none⟩) 1 1) rfl 1 (bv [0]) ?c1 ?c3 ?c4 ?c5 ?_)
      case c1 => exact Src.one Try.underlying62 (by simp) rfl
      case c3 => unfold maxLen; omega
      case c4 => rw [HZ2.out]; omega
      case c5 => simp; omega
      intro v' w1 hO' hg hat
      have hgr : Grew wr (.slice (some ⟨g4, 0, none⟩) N c4) w1 v' := (Grew.alloc _ _ _).trans (Grew.step hg hat (by simp))
      have hH' := hgr.blk HH.out (by simp [Value.ownBlock]; omega)
      have hb' := hgr.toBelow HB.out (by omega) (by simp [Value.ownBlock]; omega)
      have hs' := hgr.1.size
      rw [← bv_append, show (l ++ 128 :: List.replicate k 0) ++ [0] = l ++ 128 :: List.replicate (k + 1) 0 from by rw [List.replicate_succ']; simp, HN.out] at hO'
      have HO := Lib.hid hO'
      have HH := Lib.hid hH'
      have HB := Lib.hid hb'
      clear hO' hH' hb' hg hat hgr
      go_wp2_with fail
      refine ⟨⟨k + 1, by omega, HO.out, HH.out, HB.out, by omega⟩, ?_⟩
      obtain ⟨g6, c6, e6, _⟩ := HO.out.form (by omega)
      have hv1 : vlen v' = l.length + 1 + k + 1 := by rw [e6]; rfl
      have hv2 : vlen (Value.slice (some { block := g4, off := 0 }) N c4) = N := rfl
      have := HN.out
      rw [hv1, hv2]
      omega
    · obtain rfl : k = zerosOf l.length := by omega
      have he := zeros_eq l.length
      rw [← hN] at he
      have hd : ((N : Int) % 128 != 112) = false := by rw [bne_eq_false_iff_eq]; omega
      have hm : IntKind.u64.wrap (8 * IntKind.u64.wrap (l.length : Int)) = ((8 * l.length : Nat) : Int) := by
        have := HL.out; rw [IntKind.wrap_u64, IntKind.wrap_u64]; omega
      have HM := Lib.hid hm
      clear he hx4 hf4 hlt4 hnc4 hcm4 hN hm
      have HO := Lib.hid hO
      have HH := Lib.hid hH
      have HB := Lib.hid hb
      clear hO hH hb
      go_wp2_with fail
      refine (lay_any _ _ _ _ 0 _ HO.out hBw (by omega)).mono ?_
      rintro e w4 ⟨v4, rfl, hO4, hgr4⟩
      have hs4 := hgr4.1.size
      have HO4 := Lib.hid hO4
      have HG4 := Lib.hid hgr4
      clear hO4 hgr4
      go_wp2_with fail
      rw [HM.out]
      refine (lay_any _ _ _ _ (8 * l.length) _ HO4.out (by omega) (by omega)).mono ?_
      rintro e w5 ⟨v5, rfl, hO5, hgr5⟩
      have hgr6 := HG4.out.trans hgr5
      have hH5 := hgr6.blk HH.out (by simp [Value.ownBlock]; omega)
      have hb5 := hgr6.toBelow HB.out (by omega) (by simp [Value.ownBlock]; omega)
      have hs5 := hgr5.1.size
      rw [show l ++ 128 :: List.replicate (zerosOf l.length) 0 ++ be8 0 ++ be8 (8 * l.length) = padL l from rfl] at hO5
      have hP : (padL l).length = N + 8 + 8 := by have := hO5.len; simpa [bv] using this
      obtain ⟨P, hPe⟩ : ∃ P, P = N + 8 + 8 := ⟨_, rfl⟩
      have hPd : P % 128 = 0 := by have := (padL_len l).1; omega
      rw [← hPe] at hO5 hP
      obtain ⟨g5, c5, rfl, hg5, hlt5, hnc5, hcm5, _⟩ := hO5.form (by omega)
      have hcm5 : c5 ≤ 9223372036854775807 := by unfold maxLen at hcm5; omega
      have HO := Lib.hid hO5
      have HH := Lib.hid hH5
      have HB := Lib.hid hb5
      have HPe := Lib.hid hPe
      have HPl := Lib.hid hP
      clear hO5 hgr5 hgr6 hH5 hb5 HG4 HO4 hPe hP
      go_wp2_with fail
      go_loopw [5] (fun i wr => ∃ k : Nat, 128 * k ≤ P ∧ i = .int .i64 (128 * k : Nat) ∧ Blk wr w.heap.size 73 (av (pressAll start (padL l) k)) ∧ OwnC wr (w.heap.size + 1) 1 (.slice (some ⟨g5, 0, none⟩) P c5) P (bv (padL l)) ∧ Below w.heap.size w wr ∧ w.heap.size + 2 ≤ wr.heap.size) (fun i _ => P - (intOf i).toNat)
      case atStart => exact ⟨0, by omega, rfl, HH.out, HO.out, HB.out, by omega⟩
      case round =>
        obtain ⟨k, hk, rfl, hH, hO, hb, hsz⟩ := hrel
        obtain ⟨I, hI⟩ : ∃ I, I = 128 * k := ⟨_, rfl⟩
        have HI2 := Lib.hid hI
        rw [← hI] at hk ⊢
        rcases Nat.lt_or_ge I P with hlt | hge
        · have hlt128 : I + 128 ≤ P := by omega
          obtain ⟨g7, c7, e7, _, _, _, _, hx7, _⟩ := hO.form (by omega)
          cases e7
          have HI := Lib.hid hI
          clear hI
          have hVo := pressAll_ok start_ok (padL l) k
          generalize hV : pressAll start (padL l) k = V at *
          have HVo := Lib.hid hVo
          clear hVo
          have c0 : wr.cell? ⟨w.heap.size, 0, none⟩ = some (.int .u64 (V.a : Int)) := hH.at_ 0 rfl
          have c1 : wr.cell? ⟨w.heap.size, 1, none⟩ = some (.int .u64 (V.b : Int)) := hH.at_ 1 rfl
          have c2 : wr.cell? ⟨w.heap.size, 2, none⟩ = some (.int .u64 (V.c : Int)) := hH.at_ 2 rfl
          have c3 : wr.cell? ⟨w.heap.size, 3, none⟩ = some (.int .u64 (V.d : Int)) := hH.at_ 3 rfl
          have c4' : wr.cell? ⟨w.heap.size, 4, none⟩ = some (.int .u64 (V.e : Int)) := hH.at_ 4 rfl
          have c5' : wr.cell? ⟨w.heap.size, 5, none⟩ = some (.int .u64 (V.f : Int)) := hH.at_ 5 rfl
          have c6 : wr.cell? ⟨w.heap.size, 6, none⟩ = some (.int .u64 (V.g : Int)) := hH.at_ 6 rfl
          have c7 : wr.cell? ⟨w.heap.size, 7, none⟩ = some (.int .u64 (V.h : Int)) := hH.at_ 7 rfl
          have hw1 : IntKind.i64.wrap ((I : Int) + 128) = ((I + 128 : Nat) : Int) := by rw [IntKind.wrap_i64]; omega
          have hne : ¬ c5 = I := by omega
          have hT : ((I : Int) + 128).toNat = I + 128 := by omega
          have hblk : ((padL l).drop I).length = P - I := by rw [List.length_drop, HPl.out]
          have hcv := run_convert_bytes_back (P := Try.prog) wr.drew 62 9 5 ⟨g5, I, none⟩ (c5 - I) (((padL l).drop I).take 128) Try.underlying62 Try.underlying5 Try.underlying9 (fun j hj => by
            have hj' : j < 128 ∧ I + j < (padL l).length := by rw [List.length_take, hblk] at hj; rw [HPl.out]; omega
            have hadd : (Addr.mk g5 I none).add j = ⟨g5, I + j, none⟩ := by unfold Addr.add; split <;> simp_all
            rw [hadd]
            refine hx7 (I + j) _ ?_
            simp [bv, hj'.2])
          have hlen : (((padL l).drop I).take 128).length = 128 := by rw [List.length_take, hblk]; omega
          rw [hlen] at hcv
          rw [show (ByteArray.mk (((padL l).drop I).take 128).toArray) = bs (((padL l).drop I).take 128) from rfl] at hcv
          generalize hS : ((padL l).drop I).take 128 = S at *
          have HS := Lib.hid hS
          have HSl := Lib.hid hlen
          clear hlen hblk hS hx7
          have hw2 : (I : Int) ≤ (I : Int) + 128 := by omega
          have hw3 : (I : Int) + 128 ≤ (c5 : Int) := by omega
          have HV := Lib.hid hV
          have HO := Lib.hid hO
          have HH := Lib.hid hH
          have HB := Lib.hid hb
          clear hO hH hb hV
          go_wp2_with fail
          refine region_tail 7 (by kernel_rfl) (by kernel_rfl) ?_
          simp only [List.take_succ_cons, List.take_zero, List.drop_succ_cons, List.drop_zero]
          repeat still_step
          refine wpStill_nil ?_
          have hp := press_c V HVo.out S HSl.out wr.drew
          obtain ⟨V2, hV2⟩ : ∃ V2, V2 = pressL V S := ⟨_, rfl⟩
          rw [← hV2] at hp
          have HV2 := Lib.hid hV2
          clear hV2 hcv
          go_wp2_with fail
          refine hp.mono ?_
          rintro e w8 ⟨rfl, hb8⟩
          have hH8 : Blk w8 w.heap.size 73 (av V) := HH.out.drew.below hb8 HH.out.drew.lt
          have hO8 : OwnC w8 (w.heap.size + 1) 1 (.slice (some ⟨g5, 0, none⟩) P c5) P (bv (padL l)) := HO.out.drew.below hb8
          have hb9 : Below w.heap.size w w8 := HB.out.drew.trans (hb8.mono (show w.heap.size ≤ wr.heap.size by omega))
          have hs8 : wr.heap.size ≤ w8.heap.size := hb8.size
          have h26' : ∀ v, (Try.prog.info? 73).map (·.size) = some (av v).size := fun v => by rw [av_size]; exact h26
          have hone8 : ∀ v, (av v).all (·.oneCell') = true := fun v => by simp [av, Value.oneCell']
          have HO := Lib.hid hO8
          have HB := Lib.hid hb9
          clear hO8 hb9 hb8 hp
          go_wp2_with (refine wpList_store_row rfl 73 _ _ rfl w.heap.size (av V2) rfl rfl 73 (av V) hH8 (h26' _) ((av_size _).trans (av_size _).symm) (hone8 _) ?_)
          have hrow : w8.grownBy (w8.setRow w.heap.size (av V2)) (some w.heap.size) := gb_setRow (gb_refl _ _) (.inl rfl) _
          refine ⟨⟨k + 1, ?_, congrArg (Value.int .i64) ?_, ?_, HO.out.kept hrow (.inr (by simp [Value.ownBlock]; omega)), below_setRow HB.out (Nat.le_refl _) _, by simp; omega⟩, by simp [intOf]; omega⟩
          · have := HI.out; omega
          · have := HI.out; omega
          · have h9 : pressAll start (padL l) (k + 1) = V2 := by
              rw [HV2.out, ← HS.out, ← HV.out, HI.out]; rfl
            rw [h9]
            exact hH8.setRow _
        · have hk2 : k = P / 128 := by omega
          have hfin : pressAll start (padL l) k = pressAll start (padL l) ((padL l).length / 128) := by rw [HPl.out, hk2]
          have hsum : bytesV (pressAll start (padL l) k) = S := by rw [← HSS.out]; unfold sumL; rw [hfin]
          clear hfin
          generalize pressAll start (padL l) k = V at *
          have HSum := Lib.hid hsum
          have HB := Lib.hid hb
          have h26' : ∀ v, (Try.prog.info? 73).map (·.size) = some (av v).size := fun v => by rw [av_size]; exact h26
          clear hsum hb hI hO hk2
          go_wp2_with (refine wpList_load_row rfl 73 _ rfl w.heap.size rfl 73 (av V) (0, 0) _ hH Try.underlying73 rfl (h26' _) ?_)
          clear hH
          go_loopw [6, 44] (fun o i ws => ∃ k : Nat, k ≤ 8 ∧ i = .int .i64 k ∧ OwnC ws w.heap.size 1 o (8 * k) (bv ((V.list.take k).flatMap be8)) ∧ Below w.heap.size w ws ∧ w.heap.size ≤ ws.heap.size) (fun _ i _ => 8 - (intOf i).toNat)
          case atStart => exact ⟨0, by omega, rfl, OwnC.nil_ _ _ _, HB.out, by omega⟩
          case round =>
            obtain ⟨k, hk, rfl, hO, hb, hs⟩ := hrel
            rcases Nat.lt_or_ge k 8 with hlt | hge
            · have hix := index_av V k hlt
              have hbs := bytes_snoc V k hlt
              generalize V.list.getD k 0 = X at *
              have HO := Lib.hid hO
              have HB := Lib.hid hb
              have HBS := Lib.hid hbs
              clear hO hb hbs
              go_wp2_with fail
              refine (lay_any _ _ _ _ X _ HO.out hs (by omega)).mono ?_
              rintro e w9 ⟨o9, rfl, hO9, hg9⟩
              have hb9 := hg9.toBelow HB.out hs (fun q hq => (HO.out.ge q hq).1)
              have hs9 := hg9.1.size
              rw [← HBS.out] at hO9
              have HO := Lib.hid hO9
              have HB := Lib.hid hb9
              clear hO9 hg9 hb9
              go_wp2_with fail
              exact ⟨⟨k + 1, by omega, by go_num, HO.out, HB.out, by omega⟩, by simp [intOf]; omega⟩
            · obtain rfl : k = 8 := by omega
              rw [show V.list.take 8 = V.list from rfl, show V.list.flatMap be8 = bytesV V from rfl, HSum.out] at hO
              obtain ⟨g9, c9, rfl, _, _, _, _, hx9, _⟩ := hO.form (by omega)
              have hlen := sumL_len l
              rw [HSS.out] at hlen
              have hcv := run_convert_bytes_back (P := Try.prog) wr 62 9 5 ⟨g9, 0, none⟩ c9 S Try.underlying62 Try.underlying5 Try.underlying9 (fun j hj => by
                have hadd : (Addr.mk g9 0 none).add j = ⟨g9, j, none⟩ := by unfold Addr.add; split <;> simp_all
                rw [hadd]
                refine hx9 j _ ?_
                simp [bv, hj])
              rw [hlen, show ByteArray.mk S.toArray = bs S from rfl] at hcv
              clear hlen hx9 hO
              go_wp2_with fail
              go_ret
              exact ⟨rfl, hb⟩
theorem sum_c (l : List UInt8) (hl : l.length ≤ 100000) (w : World) :
    Calls Try.prog 21 #[.string (bs l)] w fun e w' => e = .returned (.string (bs (sumL l))) ∧ Below w.heap.size w w' := sum_any l hl _ (Lib.hid rfl) w
end Go.Proofs.Ytnfbakldpjmbnaa
