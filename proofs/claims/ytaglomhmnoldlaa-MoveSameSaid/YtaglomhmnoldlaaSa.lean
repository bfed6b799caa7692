/- A state in memory: its own block and its map; takes. -/
import Derived.Test.YtaglomhmnoldlaaNb
namespace Go.Proofs.Ytaglomhmnoldlaa
open Go.RowKit
attribute [local go_sem] bs_size bs_getElem bs_list bs_append

def zn : Array Value := #[.int .i64 0, .int .i64 0, .bool false, .int .i64 0, .int .i64 0, .string ⟨#[]⟩, .string ⟨#[]⟩]
structure Stt (w : World) (p m : Nat) (v : Value) (r : Int) (es : List Nd) : Prop where
  blk : Blk w p 54 #[v, .map (some m), .int .i64 r]
  map : MapN w m es
section
variable {w w' : World} {p m : Nat} {v : Value} {r : Int} {es : List Nd}
theorem Stt.below (h : Stt w p m v r es) (hb : Below w.heap.size w w') : Stt w' p m v r es := ⟨h.blk.below hb h.blk.lt, h.map.below hb⟩
theorem Stt.c0 (h : Stt w p m v r es) : w.cell? ⟨p, 0, none⟩ = some v := by rw [h.blk.cell]; rfl
theorem Stt.c1 (h : Stt w p m v r es) : w.cell? ⟨p, 1, none⟩ = some (.map (some m)) := by rw [h.blk.cell]; rfl
theorem Stt.c2 (h : Stt w p m v r es) : w.cell? ⟨p, 2, none⟩ = some (.int .i64 r) := by rw [h.blk.cell]; rfl
theorem Stt.alloc (h : Stt w p m v r es) (o : Obj) : Stt (w.alloc o) p m v r es := h.below ((Below.refl _ w).alloc (Nat.le_refl _) o)
end

set_option maxRecDepth 100000 in
set_option maxHeartbeats 1600000 in
theorem mtakes_any (s : St) (p m : Nat) (v : Value) (r : Int) (es : List Nd) (w : World) (h : Stt w p m v r es) :
    Calls Try.prog 52 #[.pointer (some ⟨p, 0, none⟩), sv s] w fun e w' => e = .returned (.bool (takesB s es)) ∧ Below w.heap.size w w' := by
  have hb1 : Below w.heap.size w (w.alloc (.cells #[.int .i64 s.1, .int .i64 s.2] 27)) := (Below.refl _ w).alloc (Nat.le_refl _) _
  have hB := Blk.new w 27 #[.int .i64 s.1, .int .i64 s.2]
  have q0 := hB.cell 0
  have q1 := hB.cell 1
  simp only [List.getElem?_toArray, List.getElem?_cons_zero, List.getElem?_cons_succ] at q0 q1
  have h1 := h.alloc (.cells #[.int .i64 s.1, .int .i64 s.2] 27)
  have hz := run_eql_st s (0, 0)
  obtain ⟨w1, hw1⟩ : ∃ w1, w1 = w.alloc (.cells #[.int .i64 s.1, .int .i64 s.2] 27) := ⟨_, rfl⟩
  rw [← hw1] at hb1 h1 q0 q1
  have c1 := h1.c1
  have hl := (h1.map.below (w' := (w1.alloc (.cells zn 38)).drew) ((Below.refl _ w1).alloc (Nat.le_refl _) _).drew).look2 s
  have hl2 : (Instr.lookup 51 (.map (some m)) (sv s) true).run Try.prog w1.drew = .ok (.tuple #[nv (findN s es), .bool (hasN s es)]) w1.drew := (h1.map.below (w' := w1.drew) (Below.refl _ w1).drew).look2 s
  have k1 : (w1.alloc (.cells zn 38)).cell? ⟨p, 1, none⟩ = some (.map (some m)) := cell?_alloc_old c1 _
  have k0 : (w1.alloc (.cells zn 38)).cell? ⟨w.heap.size, 0, none⟩ = some (.int .i64 s.1) := cell?_alloc_old q0 _
  have k2 : (w1.alloc (.cells zn 38)).cell? ⟨w.heap.size, 1, none⟩ = some (.int .i64 s.2) := cell?_alloc_old q1 _
  have HW := Lib.hid hw1
  have HB := Lib.hid hb1
  clear hw1 h1 hb1 hB h
  unfold takesB
  unfold sv nv zn at *
  generalize findN s es = y at *
  generalize hasN s es = is at *
  go_enter Try.func52, Try.ntmps52
  go_wp2_with fail
  rw [← HW.out]
  go_wp2_with fail
  go_region
  all_goals
    have HB2 := Lib.hid (show Below w.heap.size w ((w1.alloc (.cells #[.int .i64 y.id.1, .int .i64 y.id.2, .bool y.dir, .int .i64 y.par.1, .int .i64 y.par.2, .string (bs y.nm), .string (bs y.mf)] 38)).drew) from (HB.out.alloc HB.out.size _).drew)
    have k3 := (Blk.new w1 38 (nc y).toArray).cell 2
    have k4 := cell?_alloc_old q0 (.cells (nc y).toArray 38)
    have k5 := cell?_alloc_old q1 (.cells (nc y).toArray 38)
    unfold nc at k3 k4 k5
    simp only [List.getElem?_toArray, List.getElem?_cons_zero, List.getElem?_cons_succ] at k3
    clear k0 k1 k2 hl hl2 c1
    cases h0 : decide (s = (0, 0)) with
    | true =>
      simp only [h0] at hz
      go_wp2_with fail
      go_ret
      exact ⟨by simp [h0], HB2.out⟩
    | false =>
      simp only [h0] at hz
      cases is with
      | true =>
        go_wp2_with fail
        go_ret
        exact ⟨by simp [h0], HB2.out⟩
      | false =>
        go_wp2_with fail
        go_ret
        exact ⟨by simp [h0], HB2.out⟩

end Go.Proofs.Ytaglomhmnoldlaa
