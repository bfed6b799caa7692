/- The disk's small calls. -/
import Derived.Test.YticgcpbblefacaaDk
import Derived.Test.YticgcpbblefacaaQTail
namespace Go.Proofs.Yticgcpbblefacaa
open Go.RowKit
attribute [local go_sem] bs_size bs_getElem bs_list bs_append

theorem run_make (w : World) : (Instr.makeMap 47 none).run Try.prog w = .ok (.map (some w.heap.size)) (w.alloc (.map #[] 0)) := by simp [go_sem, Instr.makeMap]

theorem Below.grow_ {B : Nat} {w w' : World} {g : Nat} (hg : w.grownBy w' (some g)) (hs : B ≤ w.heap.size) (hB : B ≤ g) : Below B w w' :=
  below_gb (Below.refl B w) hg hB hs

set_option maxHeartbeats 1000000 in
theorem new_any (n : Nat) (h1 : 1 ≤ n) (h2 : n ≤ 16777216) (w : World) :
    Calls Try.prog 9 #[.int .i64 (n : Nat)] w fun e w' => ∃ d nb fb, e = .returned (.tuple #[.pointer (some ⟨d, 0, none⟩), .int .i64 0]) ∧ Dsk w.heap.size w' d nb fb (.slice none 0 0) ⟨n, [], [], [], 0, false⟩ ∧ Below w.heap.size w w' := by
  have hm1 := run_make w
  have hm2 := run_make (w.alloc (.map #[] 0))
  have c1 : decide ((n : Int) < 1) = false := by simp; omega
  have c2 : decide ((16777216 : Int) < n) = false := by simp; omega
  go_enter Try.func9, Try.ntmps9
  go_wp2_with fail
  go_ret2
  refine ⟨w.heap.size + 2, w.heap.size, w.heap.size + 1, by simp, ⟨?_, ?_, ?_, by omega, Rowed.nil_ _ _, by omega, by omega, by omega⟩, ?_⟩
  · have := Blk.new ((w.alloc (.map #[] 0)).alloc (.map #[] 0)) 50 #[.int .i64 (n : Nat), .map (some w.heap.size), .map (some (w.heap.size + 1)), .slice none 0 0, .int .i64 0, .bool false]
    rwa [show ((w.alloc (.map #[] 0)).alloc (.map #[] 0)).heap.size = w.heap.size + 2 from by simp] at this
  · exact (Fs.new w).alloc _ |>.alloc _
  · have := (Fs.new (w.alloc (.map #[] 0))).alloc (.cells #[.int .i64 (n : Nat), .map (some w.heap.size), .map (some (w.heap.size + 1)), .slice none 0 0, .int .i64 0, .bool false] 50)
    rwa [show (w.alloc (.map #[] 0)).heap.size = w.heap.size + 1 from by simp] at this
  · exact (((Below.refl _ w).alloc (Nat.le_refl _) _).alloc (by simp) _).alloc (by simp; omega) _

set_option maxHeartbeats 1000000 in
theorem wrong_ok {B d nb fb : Nat} {v : Value} {st : DS} {w : World} (h : Dsk B w d nb fb v st) (hd : st.dead = false) (name : Bytes) (k : Nat) (h1 : 1 ≤ name.length) (h2 : name.length ≤ 24) (hk : k ≤ st.limit) :
    Calls Try.prog 19 #[.pointer (some ⟨d, 0, none⟩), .string (bs name), .int .i64 (k : Nat)] w fun e w' => e = .returned (.int .i64 0) ∧ w = w' := by
  have q0 : w.cell? ⟨d, 0, none⟩ = some (.int .i64 (st.limit : Nat)) := h.blk.cell 0
  have q5 : w.cell? ⟨d, 5, none⟩ = some (.bool false) := by rw [← hd]; exact h.blk.cell 5
  have c1 : (bs name).toList.isEmpty = false := by
    rw [bs_list]
    exact List.isEmpty_eq_false_iff.2 (fun e => by rw [e] at h1; simp at h1)
  have c2 : decide ((24 : Int) < (name.length : Int)) = false := by simp; omega
  have c3 : decide ((k : Int) < 0) = false := by simp
  have c4 : decide ((st.limit : Int) < (k : Int)) = false := by simp; omega
  have c5 : (name == []) = false := by
    rw [beq_eq_false_iff_ne]
    exact fun e => by rw [e] at h1; simp at h1
  clear h hd
  go_enter Try.func19, Try.ntmps19
  go_wp2_with fail
  go_ret
  exact ⟨rfl, rfl⟩
set_option maxHeartbeats 1000000 in
theorem wrong_dead {B d nb fb : Nat} {v : Value} {st : DS} {w : World} (h : Dsk B w d nb fb v st) (hd : st.dead = true) (s : Value) (k : Value) :
    Calls Try.prog 19 #[.pointer (some ⟨d, 0, none⟩), s, k] w fun e w' => e = .returned (.int .i64 42) ∧ w = w' := by
  have q5 : w.cell? ⟨d, 5, none⟩ = some (.bool true) := by rw [← hd]; exact h.blk.cell 5
  clear h hd
  go_enter Try.func19, Try.ntmps19
  go_wp2_with fail
  go_ret
  exact ⟨rfl, rfl⟩
set_option maxHeartbeats 1000000 in
theorem wrong_nil (s : Value) (k : Value) (w : World) :
    Calls Try.prog 19 #[.pointer none, s, k] w fun e w' => e = .returned (.int .i64 2) ∧ w = w' := by
  go_enter Try.func19, Try.ntmps19
  go_wp2_with fail
  go_ret
  exact ⟨rfl, rfl⟩

theorem beq_dec (a b : Int) : (a == b) = decide (a = b) := by rw [Bool.eq_iff_iff]; simp
def diesSt (st : DS) : DS := if 0 < st.armed then { st with armed := st.armed - 1, dead := decide (st.armed - 1 = 0) } else st
set_option maxHeartbeats 1000000 in
theorem dies_any {B d nb fb : Nat} {v : Value} {st : DS} {w : World} (h : Dsk B w d nb fb v st) (ha : st.armed ≤ 9223372036854775807) :
    Calls Try.prog 24 #[.pointer (some ⟨d, 0, none⟩)] w fun e w' => e = .returned (.bool (diesSt st).dead) ∧ Dsk B w' d nb fb v (diesSt st) ∧ w.grownBy w' (some d) := by
  obtain ⟨limit, now, firm, acts, armed, dead⟩ := st
  have hblk := h.blk
  have q4 := hblk.cell 4
  have q5 := hblk.cell 5
  have f4 := hblk.frozen 4
  have f5 := hblk.frozen 5
  simp only at q4 q5 ha
  have hS1 := hblk.set_ 4 (.int .i64 (armed - 1))
  have hS2 := hS1.set_ 5 (.bool (decide (armed - 1 = 0)))
  have r4 := hS1.cell 4
  have g5 := hS1.frozen 5
  have hg : w.grownBy ((w.setCell ⟨d, 4, none⟩ (.int .i64 (armed - 1))).setCell ⟨d, 5, none⟩ (.bool (decide (armed - 1 = 0)))) (some d) :=
    gb_setCell (gb_setCell (gb_refl w _) (p := ⟨d, 4, none⟩) (.inl rfl) _) (p := ⟨d, 5, none⟩) (.inl rfl) _
  by_cases c : 0 < armed
  · have hw1 : wrap64 (armed - 1) = armed - 1 := by unfold wrap64; omega
    have s5 := hS2.cell 5
    simp at r4 s5 q4 q5
    have H := Lib.hid h
    have HG := Lib.hid hg
    have HS2 := Lib.hid hS2
    clear h hg hS2 hS1 hblk
    go_enter Try.func24, Try.ntmps24
    go_wp2_with fail
    go_ret
    refine ⟨?_, H.out.cells HG.out ?_ ?_ ?_ ?_, ?_⟩
    · exact ret_bool (by simp only [diesSt, if_pos c]; exact beq_dec _ _)
    · simp only [diesSt, if_pos c]; exact HS2.out
    all_goals (try simp only [diesSt, if_pos c])
    exact HG.out
  · have C1 := Lib.hid c
    clear hS1 hS2 r4 g5 hg
    have c' : decide (armed > 0) = false := by simpa using c
    simp at q4 q5
    have H := Lib.hid h
    clear h hblk
    go_enter Try.func24, Try.ntmps24
    go_wp2_with fail
    go_ret
    refine ⟨?_, ?_, gb_refl _ _⟩
    · exact ret_bool (by simp only [diesSt, if_neg (Int.not_lt.2 C1.out)])
    · simp only [diesSt, if_neg (Int.not_lt.2 C1.out)]; exact H.out

set_option maxHeartbeats 1000000 in
theorem laid_any (s data : Bytes) (k : Nat) (w : World) (hs : s.length ≤ 100000000) (hd : data.length ≤ 100000000) (hk : k ≤ 8192) :
    Calls Try.prog 22 #[.string (bs s), .int .i64 (k : Nat), .string (bs data)] w fun e w' => e = .returned (.string (bs (laidL s k data))) ∧ Below w.heap.size w w' := by
  have main : ∀ (s' : Bytes), k ≤ s'.length → s'.length ≤ 100100000 → ∃ a1 a2 m, (bs s').extract 0 k = bs a1 ∧ (bs s').extract m s'.length = bs a2 ∧ min (s'.length : Int) ((k : Int) + (data.length : Int)) = ((m : Nat) : Int) ∧ m ≤ s'.length ∧
      a1.length + data.length ≤ 9223372036854775807 ∧ a1.length + data.length + a2.length ≤ 9223372036854775807 ∧ a1 ++ data ++ a2 = s'.take k ++ data ++ s'.drop (min s'.length (k + data.length)) := by
    intro s' h1 h2
    refine ⟨s'.take k, s'.drop (min s'.length (k + data.length)), min s'.length (k + data.length), ?_, ?_, by omega, by omega, by simp; omega, by simp; omega, rfl⟩
    · rw [bs_extract]; simp
    · rw [bs_extract, List.take_of_length_le (by simp)]
  obtain ⟨s', h1, h2, h3, h4⟩ : ∃ s', k ≤ s'.length ∧ s'.length ≤ 100100000 ∧ laidL s k data = s'.take k ++ data ++ s'.drop (min s'.length (k + data.length)) ∧ s' = s ++ zeros (k - s.length) :=
    ⟨s ++ zeros (k - s.length), by simp [zeros]; omega, by simp [zeros]; omega, rfl, rfl⟩
  obtain ⟨a1, a2, m, x1, x2, x3, x4, x5, x6, x7⟩ := main s' h1 h2
  rw [h3, ← x7]
  have H1 : (k : Int) ≤ (s'.length : Int) := by omega
  have H4 : (m : Int) ≤ (s'.length : Int) := by omega
  have hz := Lib.hid h4
  clear main h3 x7 h4
  by_cases c : s.length < k
  case' pos =>
    have c' : decide ((s.length : Int) < (k : Int)) = true := by simp; omega
    obtain ⟨z, hz'⟩ : ∃ z, z = k - s.length := ⟨_, rfl⟩
    have hsub : (k : Int) - (s.length : Int) = (z : Int) := by omega
    have hz1 : 1 ≤ z := by omega
    have hz2 : z ≤ 8192 := by omega
    have hsum : s.length + (zeros z).length ≤ 9223372036854775807 := by rw [zeros_len]; omega
    have HS : Hid (s' = s ++ zeros z) := Lib.hid (by rw [hz.out, hz'])
    clear hz' hz
    go_enter Try.func22, Try.ntmps22
    go_wp2_with fail
    refine (repeat_any z _ hz1 hz2).mono ?_
    rintro e w1 ⟨rfl, hb⟩
    have HB := Lib.hid hb
    clear hb
    go_wp2_with fail
    rw [← HS.out]
    go_wp2_with fail
  case' neg =>
    have c' : decide ((s.length : Int) < (k : Int)) = false := by simp; omega
    obtain rfl : s' = s := by rw [hz.out, show k - s.length = 0 from by omega]; simp [zeros]
    have HB := Lib.hid (Below.refl w.heap.size w)
    clear hz
    go_enter Try.func22, Try.ntmps22
    go_wp2_with fail
  all_goals
    refine wp_region_quiet_lit (by kernel_rfl) (by kernel_rfl) ?_
    repeat (go_big_quiet_step (fail))
    refine wpQuiet_nil ?_
    rintro _ ⟨nq, rfl⟩
    go_wp2_with fail
    go_ret
    rw [List.append_assoc]
    exact ⟨rfl, ⟨HB.out.os, HB.out.tape, HB.out.output, HB.out.size, HB.out.block⟩⟩
end Go.Proofs.Yticgcpbblefacaa
