/- below: goes up from a stamp, no further than there are nodes. -/
import Derived.Test.YtaglomhmnoldlaaSa
namespace Go.Proofs.Ytaglomhmnoldlaa
open Go.RowKit
attribute [local go_sem] bs_size bs_getElem bs_list bs_append

def belowP (xs : List Nd) : Nat → St → St → Bool
  | 0, _, _ => false
  | f + 1, id, nd => if id = nd then true else if hasN id xs then belowP xs f (findN id xs).par nd else false

structure Bel (B0 : Nat) (w0 wr : World) (id nd : St) : Prop where
  b1 : Blk wr B0 27 #[.int .i64 id.1, .int .i64 id.2]
  b2 : Blk wr (B0 + 1) 27 #[.int .i64 nd.1, .int .i64 nd.2]
  below : Below B0 w0 wr
theorem Bel.stay {B0 : Nat} {w0 wr w' : World} {id nd : St} (h : Bel B0 w0 wr id nd) (hb : Below wr.heap.size wr w') : Bel B0 w0 w' id nd :=
  ⟨h.b1.below hb h.b1.lt, h.b2.below hb h.b2.lt, h.below.trans (hb.mono (Nat.le_of_lt h.b1.lt))⟩
theorem Bel.set_ {B0 : Nat} {w0 wr : World} {id nd : St} (h : Bel B0 w0 wr id nd) (s : St) : Bel B0 w0 ((wr.setCell ⟨B0, 0, none⟩ (.int .i64 s.1)).setCell ⟨B0, 1, none⟩ (.int .i64 s.2)) s nd := by
  have hset := Blk.set_ (Blk.set_ h.b1 0 (.int .i64 s.1)) 1 (.int .i64 s.2)
  exact ⟨by simpa using hset, Blk.far (Blk.far h.b2 (by simp) _) (by simp) _, (h.below.setCell (p := ⟨B0, 0, none⟩) (Nat.le_refl _) _).setCell (p := ⟨B0, 1, none⟩) (Nat.le_refl _) _⟩

set_option maxRecDepth 100000 in
set_option maxHeartbeats 3200000 in
theorem below_any (s nd : St) (p m : Nat) (v : Value) (r : Int) (es : List Nd) (w : World) (h : Stt w p m v r es) (hm : es.length ≤ 1000000) :
    Calls Try.prog 53 #[.pointer (some ⟨p, 0, none⟩), sv s, sv nd] w fun e w' => e = .returned (.bool (belowP es (es.length + 1) s nd)) ∧ Below w.heap.size w w' := by
  obtain ⟨w1, hw1⟩ : ∃ w1, w1 = (w.alloc (.cells #[.int .i64 s.1, .int .i64 s.2] 27)).alloc (.cells #[.int .i64 nd.1, .int .i64 nd.2] 27) := ⟨_, rfl⟩
  have hB : Bel w.heap.size w w1 s nd := by
    rw [hw1]
    exact ⟨(Blk.new w 27 _).alloc _, by simpa using Blk.new (w.alloc (.cells #[.int .i64 s.1, .int .i64 s.2] 27)) 27 #[.int .i64 nd.1, .int .i64 nd.2], ((Below.refl _ w).alloc (Nat.le_refl _) _).alloc (by simp) _⟩
  have h1 : Stt w1 p m v r es := h.below hB.below
  have c1 := h1.c1
  have hlen : ∀ ty, (Builtin.len_ #[51] ty #[.map (some m)]).run Try.prog w1 = .ok (.int .i64 es.length) w1 := h1.map.len
  have hsz := hB.b2.lt
  rw [hw1] at c1 hlen
  have HS := Lib.hid h
  have HB := Lib.hid hB
  have HW := Lib.hid hw1
  generalize hRR : belowP es (es.length + 1) s nd = R
  have HRR := Lib.hid hRR
  clear hw1 hB h h1 hRR
  unfold sv
  go_enter Try.func53, Try.ntmps53
  go_wp2_with fail
  rw [← HW.out]
  clear c1 hlen
  go_loopw [15] (fun i wr => ∃ (k : Nat) (id : St), k ≤ es.length + 1 ∧ i = .int .i64 k ∧ Bel w.heap.size w wr id nd ∧ belowP es (es.length + 1 - k) id nd = R) (fun i _ => es.length + 1 - (intOf i).toNat)
  case atStart => exact ⟨0, s, by omega, rfl, HB.out, HRR.out⟩
  case round =>
    obtain ⟨k, id, hk, rfl, hB, hR⟩ := hrel
    have hst : Stt wr p m v r es := HS.out.below hB.below
    have c1 := hst.c1
    have q0 := hB.b1.cell 0
    have q1 := hB.b1.cell 1
    have n0 := hB.b2.cell 0
    have n1 := hB.b2.cell 1
    simp only [List.getElem?_toArray, List.getElem?_cons_zero, List.getElem?_cons_succ] at q0 q1 n0 n1
    rcases Nat.lt_or_ge k (es.length + 1) with hlt | hge
    · have hki : (k : Int) < (es.length : Int) + 1 := by omega
      have he := run_eql_st id nd
      rw [show es.length + 1 - k = (es.length - k) + 1 from by omega] at hR
      unfold belowP at hR
      by_cases h0 : id = nd
      · have hd : decide (id = nd) = true := decide_eq_true h0
        rw [if_pos h0] at hR
        have HR := Lib.hid hR
        simp only [hd] at he
        have HB2 := Lib.hid hB.below
        clear hR h0 hB hst
        go_wp2_with fail
        go_ret
        exact ⟨by rw [← HR.out]; rfl, HB2.out⟩
      · have hd : decide (id = nd) = false := decide_eq_false h0
        rw [if_neg h0] at hR
        have HR := Lib.hid hR
        have HBr := Lib.hid hB
        simp only [hd] at he
        have hl := (hst.map.below (w' := (wr.alloc (.cells zn 38)).drew) ((Below.refl _ wr).alloc (Nat.le_refl _) _).drew).look2 id
        have hl2 : (Instr.lookup 51 (.map (some m)) (sv id) true).run Try.prog wr.drew = .ok (.tuple #[nv (findN id es), .bool (hasN id es)]) wr.drew := (hst.map.below (w' := wr.drew) (Below.refl _ wr).drew).look2 id
        have k1 : (wr.alloc (.cells zn 38)).cell? ⟨p, 1, none⟩ = some (.map (some m)) := cell?_alloc_old c1 _
        have k0 : (wr.alloc (.cells zn 38)).cell? ⟨w.heap.size, 0, none⟩ = some (.int .i64 id.1) := cell?_alloc_old q0 _
        have k2 : (wr.alloc (.cells zn 38)).cell? ⟨w.heap.size, 1, none⟩ = some (.int .i64 id.2) := cell?_alloc_old q1 _
        clear hR h0 hB hst hd
        unfold sv nv zn at *
        generalize hy : findN id es = y at *
        generalize his : hasN id es = is at *
        have HY := Lib.hid hy
        have HI := Lib.hid his
        clear hy his
        go_wp2_with fail
        go_region
        all_goals
          have hB2 := HBr.out.stay (w' := (wr.alloc (.cells (nc y).toArray 38)).drew) ((Below.refl _ wr).alloc (Nat.le_refl _) _).drew
          have HB3 := Lib.hid hB2.below
          have HB4 := Lib.hid (hB2.set_ y.par)
          have k3 := (Blk.new wr 38 (nc y).toArray).cell 3
          have k4 := (Blk.new wr 38 (nc y).toArray).cell 4
          have hB1 := HBr.out.stay (w' := (wr.alloc (.cells (nc y).toArray 38))) ((Below.refl _ wr).alloc (Nat.le_refl _) _)
          have f0 := hB1.b1.frozen 0
          have f1 := hB1.b1.frozen 1
          have q0' := hB1.b1.cell 0
          have q1' := hB1.b1.cell 1
          unfold nc at k3 k4 HB4 HB3 f0 f1 q0' q1'
          simp only [List.getElem?_toArray, List.getElem?_cons_zero, List.getElem?_cons_succ] at k3 k4 q0' q1'
          clear k0 k1 k2 hl hl2 c1 q0 q1 n0 n1 he hB2 hB1
          cases is with
          | false =>
            go_wp2_with fail
            go_ret
            exact ⟨by rw [← HR.out]; rfl, HB3.out⟩
          | true =>
            go_wp2_with fail
            exact ⟨⟨k + 1, y.par, by omega, by go_num, HB4.out, by
              rw [← HR.out, show es.length + 1 - (k + 1) = es.length - k from by omega]; rfl⟩, by simp [intOf]; omega⟩
    · have hkn : ¬ (k : Int) < (es.length : Int) + 1 := by omega
      have hf : es.length + 1 - k = 0 := by omega
      rw [hf] at hR
      have HR := Lib.hid hR
      have HB2 := Lib.hid hB.below
      clear hR hf hB hst
      go_wp2_with fail
      go_ret
      exact ⟨by rw [← HR.out]; rfl, HB2.out⟩
end Go.Proofs.Ytaglomhmnoldlaa
