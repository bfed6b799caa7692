/- The walks of the laws on single stamps. -/
import Derived.Test.YtdoghihjanlgpaaF
import Derived.Deep.RegionHeld3
import Derived.BigQuiet
namespace Go.Proofs.Ytdoghihjanlgpaa
open Go.RowKit

theorem cell_lt {w : World} {g o : Nat} {v : Value} (h : w.cell? ⟨g, o, none⟩ = some v) : g < w.heap.size := by
  rcases Nat.lt_or_ge g w.heap.size with hlt | hge
  · exact hlt
  · simp [World.cell?, Array.getElem?_eq_none hge] at h
theorem cell_below {w w1 : World} (hb : Below w.heap.size w w1) {g o : Nat} {v : Value} (hg : g < w.heap.size) (h : w.cell? ⟨g, o, none⟩ = some v) : w1.cell? ⟨g, o, none⟩ = some v := (hb.cell (p := ⟨g, o, none⟩) hg).trans h
theorem keep2 {w W w' : World} {g0 o0 g1 o1 : Nat} {v0 v1 : Value} (h : (W.cell? ⟨g0, o0, none⟩ = some v0 ∧ W.cell? ⟨g1, o1, none⟩ = some v1) ∧ Below w.heap.size w W) (hb : Below W.heap.size W w') : (w'.cell? ⟨g0, o0, none⟩ = some v0 ∧ w'.cell? ⟨g1, o1, none⟩ = some v1) ∧ Below w.heap.size w w' := by
  obtain ⟨⟨h0, h1⟩, h⟩ := h
  exact ⟨⟨cell_below hb (cell_lt h0) h0, cell_below hb (cell_lt h1) h1⟩, h.trans (hb.mono h.size)⟩
theorem keep4 {w W w' : World} {g0 o0 g1 o1 g2 o2 g3 o3 : Nat} {v0 v1 v2 v3 : Value} (h : (W.cell? ⟨g0, o0, none⟩ = some v0 ∧ W.cell? ⟨g1, o1, none⟩ = some v1 ∧ W.cell? ⟨g2, o2, none⟩ = some v2 ∧ W.cell? ⟨g3, o3, none⟩ = some v3) ∧ Below w.heap.size w W) (hb : Below W.heap.size W w') : (w'.cell? ⟨g0, o0, none⟩ = some v0 ∧ w'.cell? ⟨g1, o1, none⟩ = some v1 ∧ w'.cell? ⟨g2, o2, none⟩ = some v2 ∧ w'.cell? ⟨g3, o3, none⟩ = some v3) ∧ Below w.heap.size w w' := by
  obtain ⟨⟨h0, h1, h2, h3⟩, h⟩ := h
  exact ⟨⟨cell_below hb (cell_lt h0) h0, cell_below hb (cell_lt h1) h1, cell_below hb (cell_lt h2) h2, cell_below hb (cell_lt h3) h3⟩, h.trans (hb.mono h.size)⟩
theorem keep6 {w W w' : World} {g0 o0 g1 o1 g2 o2 g3 o3 g4 o4 g5 o5 : Nat} {v0 v1 v2 v3 v4 v5 : Value} (h : (W.cell? ⟨g0, o0, none⟩ = some v0 ∧ W.cell? ⟨g1, o1, none⟩ = some v1 ∧ W.cell? ⟨g2, o2, none⟩ = some v2 ∧ W.cell? ⟨g3, o3, none⟩ = some v3 ∧ W.cell? ⟨g4, o4, none⟩ = some v4 ∧ W.cell? ⟨g5, o5, none⟩ = some v5) ∧ Below w.heap.size w W) (hb : Below W.heap.size W w') : (w'.cell? ⟨g0, o0, none⟩ = some v0 ∧ w'.cell? ⟨g1, o1, none⟩ = some v1 ∧ w'.cell? ⟨g2, o2, none⟩ = some v2 ∧ w'.cell? ⟨g3, o3, none⟩ = some v3 ∧ w'.cell? ⟨g4, o4, none⟩ = some v4 ∧ w'.cell? ⟨g5, o5, none⟩ = some v5) ∧ Below w.heap.size w w' := by
  obtain ⟨⟨h0, h1, h2, h3, h4, h5⟩, h⟩ := h
  exact ⟨⟨cell_below hb (cell_lt h0) h0, cell_below hb (cell_lt h1) h1, cell_below hb (cell_lt h2) h2, cell_below hb (cell_lt h3) h3, cell_below hb (cell_lt h4) h4, cell_below hb (cell_lt h5) h5⟩, h.trans (hb.mono h.size)⟩

set_option maxHeartbeats 1000000 in
theorem law_less (a b c d : Int) (w : World) :
    Calls Try.prog 9 #[.agg #[.int .i64 a, .int .i64 b], .agg #[.int .i64 c, .int .i64 d]] w fun e w' => e = .returned (.bool true) ∧ Below w.heap.size w w' := by
  go_enter Try.func9, Try.ntmps9
  go_wp2_with fail
  have hB0 : Below w.heap.size w ((w.alloc (.cells #[.int .i64 a, .int .i64 b] 25)).alloc (.cells #[.int .i64 c, .int .i64 d] 25)) := ((Below.refl _ _).alloc (Nat.le_refl _) _).alloc (by simp) _
  go_region_held3 (fun w' => (w'.cell? ⟨w.heap.size, 0, none⟩ = some (.int .i64 a) ∧ w'.cell? ⟨w.heap.size, 1, none⟩ = some (.int .i64 b) ∧ w'.cell? ⟨w.heap.size + 1, 0, none⟩ = some (.int .i64 c) ∧ w'.cell? ⟨w.heap.size + 1, 1, none⟩ = some (.int .i64 d)) ∧ Below w.heap.size w w') (first | exact ⟨⟨by simp [go_sem], by simp [go_sem], by simp [go_sem], by simp [go_sem]⟩, hB0.drew⟩ | exact keep4 ‹_› ‹_›)
    (first
      | (go_at_call 23; refine (less_any a b c d _).mono ?_; rintro e w' ⟨rfl, hb⟩)
      | (go_at_call 24; refine (rless_any a b c d _).mono ?_; rintro e w' ⟨rfl, hb⟩)
      | (go_at_call 12; refine (awake_any _).mono ?_; rintro e w' ⟨rfl, hb⟩))
  rename_i hH
  go_wp2
  go_ret
  exact ⟨rfl, hH.2⟩

set_option maxHeartbeats 1000000 in
theorem law_right (a b c d : Int) (w : World) :
    Calls Try.prog 10 #[.agg #[.int .i64 a, .int .i64 b], .agg #[.int .i64 c, .int .i64 d]] w fun e w' => e = .returned (.bool true) ∧ Below w.heap.size w w' := by
  go_enter Try.func10, Try.ntmps10
  go_wp2_with fail
  have hB0 : Below w.heap.size w ((w.alloc (.cells #[.int .i64 a, .int .i64 b] 25)).alloc (.cells #[.int .i64 c, .int .i64 d] 25)) := ((Below.refl _ _).alloc (Nat.le_refl _) _).alloc (by simp) _
  go_region_held3 (fun w' => (w'.cell? ⟨w.heap.size, 0, none⟩ = some (.int .i64 a) ∧ w'.cell? ⟨w.heap.size, 1, none⟩ = some (.int .i64 b) ∧ w'.cell? ⟨w.heap.size + 1, 0, none⟩ = some (.int .i64 c) ∧ w'.cell? ⟨w.heap.size + 1, 1, none⟩ = some (.int .i64 d)) ∧ Below w.heap.size w w') (first | exact ⟨⟨by simp [go_sem], by simp [go_sem], by simp [go_sem], by simp [go_sem]⟩, hB0.drew⟩ | exact keep4 ‹_› ‹_›)
    (first
      | (go_at_call 23; refine (less_any a b c d _).mono ?_; rintro e w' ⟨rfl, hb⟩)
      | (go_at_call 24; refine (rless_any a b c d _).mono ?_; rintro e w' ⟨rfl, hb⟩)
      | (go_at_call 25; refine (right_any a b _).mono ?_; rintro e w' ⟨rfl, hb⟩)
      | (go_at_call 26; refine (rright_any a b _).mono ?_; rintro e w' ⟨rfl, hb⟩)
      | (go_at_call 12; refine (awake_any _).mono ?_; rintro e w' ⟨rfl, hb⟩))
  rename_i hH
  go_wp2
  go_ret
  exact ⟨rfl, hH.2⟩


/-- The worlds that come behind W: what was there is as it was. -/
structure After (W : World) where
  wd : World
  below : Below W.heap.size W wd
instance (W : World) : Nonempty (After W) := ⟨⟨W, Below.refl _ _⟩⟩
/-- A region that draws its order, whose operations read and whose callees turn nothing that was there: one walk in the text's order. -/
theorem wp_region_after {P : Program} {id : Nat} {Q : Exit → Act → World → Prop} {a : Act} {w : World} {l : List Oper} (hm : P.follows .mixedOrders = true) (hB : Region.lexB .any l.toArray = true)
    (h : wpQuiet P l.toArray (fun w' => ∃ x : After w, w' = x.wd) (fun a' => ∀ w', (∃ x : After w, w' = x.wd) → Q .normal a' w') l a) : (Code.region id l.toArray true).wp P Q a w :=
  wp_region_quiet (C := fun w' => ∃ x : After w, w' = x.wd) hm hB ⟨⟨_, (Below.refl _ _).drew⟩, rfl⟩ (by simpa using h)
theorem after_call {P : Program} {f : FuncId} {args : Array Value} {W : World} {x : After W} {v : Value} (h : Calls P f args x.wd fun e w' => e = .returned v ∧ Below x.wd.heap.size x.wd w') :
    Calls P f args x.wd fun e w'' => e = .returned v ∧ ∃ y : After W, w'' = y.wd :=
  h.mono fun _ w' ⟨he, hb⟩ => ⟨he, ⟨w', x.below.trans (hb.mono x.below.size)⟩, rfl⟩
theorem after_same {P : Program} {f : FuncId} {args : Array Value} {W : World} {x : After W} {v : Value} (h : Calls P f args x.wd fun e w' => e = .returned v ∧ x.wd = w') :
    Calls P f args x.wd fun e w'' => e = .returned v ∧ ∃ y : After W, w'' = y.wd :=
  h.mono fun _ w' ⟨he, hb⟩ => ⟨he, x, hb.symm⟩
theorem After.cell {W : World} (x : After W) {g o : Nat} {v : Value} (h : W.cell? ⟨g, o, none⟩ = some v) : x.wd.cell? ⟨g, o, none⟩ = some v := cell_below x.below (cell_lt h) h

set_option maxHeartbeats 400000 in
theorem run_eql_stamp (a b c d : Int) (w : World) : (binOp .eql 25 (.agg #[.int .i64 a, .int .i64 b]) (.agg #[.int .i64 c, .int .i64 d])).run Try.prog w = .ok (.bool (decide (a = c ∧ b = d))) w := by
  by_cases h1 : a = c
  · by_cases h2 : b = d
    · simp [go_sem, h1, h2]
    · have h2' : (b == d) = false := by simp [h2]
      simp [go_sem, h1, h2, h2']
  · have h1' : (a == c) = false := by simp [h1]
    simp [go_sem, h1, h1']
set_option maxHeartbeats 400000 in
theorem run_neq_stamp (a b c d : Int) (w : World) : (binOp .neq 25 (.agg #[.int .i64 a, .int .i64 b]) (.agg #[.int .i64 c, .int .i64 d])).run Try.prog w = .ok (.bool (!decide (a = c ∧ b = d))) w := by
  by_cases h1 : a = c
  · by_cases h2 : b = d
    · simp [go_sem, h1, h2]
    · have h2' : (b == d) = false := by simp [h2]
      simp [go_sem, h1, h2, h2']
  · have h1' : (a == c) = false := by simp [h1]
    simp [go_sem, h1, h1']
theorem less_is (a b c d : Int) (r : Bool) (h : lessB a b c d = r) (w : World) :
    Calls Try.prog 23 #[.agg #[.int .i64 a, .int .i64 b], .agg #[.int .i64 c, .int .i64 d]] w fun e w' => e = .returned (.bool r) ∧ Below w.heap.size w w' := by
  subst h; exact less_any a b c d w

set_option maxHeartbeats 1000000 in
theorem law_order_eq (a b f g : Int) (w : World) :
    Calls Try.prog 8 #[.agg #[.int .i64 a, .int .i64 b], .agg #[.int .i64 a, .int .i64 b], .agg #[.int .i64 f, .int .i64 g]] w fun e w' => e = .returned (.bool true) ∧ Below w.heap.size w w' := by
  have e1 : lessB a b a b = false := by simp [lessB]
  go_enter Try.func8, Try.ntmps8
  go_wp2_with fail
  have hB0 : Below w.heap.size w (((w.alloc (.cells #[.int .i64 a, .int .i64 b] 25)).alloc (.cells #[.int .i64 a, .int .i64 b] 25)).alloc (.cells #[.int .i64 f, .int .i64 g] 25)) := (((Below.refl _ _).alloc (Nat.le_refl _) _).alloc (by simp) _).alloc (by simp; omega) _
  have c1 : (((w.alloc (.cells #[.int .i64 a, .int .i64 b] 25)).alloc (.cells #[.int .i64 a, .int .i64 b] 25)).alloc (.cells #[.int .i64 f, .int .i64 g] 25)).cell? ⟨w.heap.size, 0, none⟩ = some (.int .i64 a) := by simp [go_sem]
  have c2 : (((w.alloc (.cells #[.int .i64 a, .int .i64 b] 25)).alloc (.cells #[.int .i64 a, .int .i64 b] 25)).alloc (.cells #[.int .i64 f, .int .i64 g] 25)).cell? ⟨w.heap.size, 1, none⟩ = some (.int .i64 b) := by simp [go_sem]
  have c3 : (((w.alloc (.cells #[.int .i64 a, .int .i64 b] 25)).alloc (.cells #[.int .i64 a, .int .i64 b] 25)).alloc (.cells #[.int .i64 f, .int .i64 g] 25)).cell? ⟨w.heap.size + 1, 0, none⟩ = some (.int .i64 a) := by simp [go_sem]
  have c4 : (((w.alloc (.cells #[.int .i64 a, .int .i64 b] 25)).alloc (.cells #[.int .i64 a, .int .i64 b] 25)).alloc (.cells #[.int .i64 f, .int .i64 g] 25)).cell? ⟨w.heap.size + 1, 1, none⟩ = some (.int .i64 b) := by simp [go_sem]
  have c5 : (((w.alloc (.cells #[.int .i64 a, .int .i64 b] 25)).alloc (.cells #[.int .i64 a, .int .i64 b] 25)).alloc (.cells #[.int .i64 f, .int .i64 g] 25)).cell? ⟨w.heap.size + 1 + 1, 0, none⟩ = some (.int .i64 f) := by simp [go_sem]
  have c6 : (((w.alloc (.cells #[.int .i64 a, .int .i64 b] 25)).alloc (.cells #[.int .i64 a, .int .i64 b] 25)).alloc (.cells #[.int .i64 f, .int .i64 g] 25)).cell? ⟨w.heap.size + 1 + 1, 1, none⟩ = some (.int .i64 g) := by simp [go_sem]
  generalize (((w.alloc (.cells #[.int .i64 a, .int .i64 b] 25)).alloc (.cells #[.int .i64 a, .int .i64 b] 25)).alloc (.cells #[.int .i64 f, .int .i64 g] 25)) = W at *
  have k1 := fun x : After W => x.cell c1
  have k2 := fun x : After W => x.cell c2
  have k3 := fun x : After W => x.cell c3
  have k4 := fun x : After W => x.cell c4
  refine wp_region_after (by kernel_rfl) (by kernel_rfl) ?_
  repeat (go_big_quiet_step ((go_at_call 23; exact after_call (less_is _ _ _ _ _ (by assumption) _))))
  refine wpQuiet_nil ?_
  rintro _ ⟨x, rfl⟩
  have d1 := x.cell c1
  have d2 := x.cell c2
  have d3 := x.cell c3
  have d4 := x.cell c4
  have d5 := x.cell c5
  have d6 := x.cell c6
  have hB1 : Below w.heap.size w x.wd := hB0.trans (x.below.mono hB0.size)
  clear k1 k2 k3 k4 c1 c2 c3 c4 c5 c6
  generalize x.wd = W2 at *
  clear x hB0
  clear W
  go_wp2_with fail
  refine (less_is _ _ _ _ _ e1 _).mono ?_
  rintro e3 W3 ⟨rfl, hb3⟩
  have d1 := cell_below hb3 (cell_lt d1) d1
  have d2 := cell_below hb3 (cell_lt d2) d2
  have d3 := cell_below hb3 (cell_lt d3) d3
  have d4 := cell_below hb3 (cell_lt d4) d4
  have d5 := cell_below hb3 (cell_lt d5) d5
  have d6 := cell_below hb3 (cell_lt d6) d6
  have hB1 := hB1.trans (hb3.mono hB1.size)
  go_wp2_with fail
  refine (awake_any _).mono ?_
  rintro e9 W9 ⟨rfl, hb9⟩
  go_wp2_with fail
  go_ret
  exact ⟨rfl, hB1.trans (hb9.mono hB1.size)⟩

set_option maxHeartbeats 1000000 in
theorem law_order_f (a b c d f g : Int) (w : World) (hne : ¬(a = c ∧ b = d)) (e1 : lessB a b c d = false) (e2 : lessB c d a b = true) :
    Calls Try.prog 8 #[.agg #[.int .i64 a, .int .i64 b], .agg #[.int .i64 c, .int .i64 d], .agg #[.int .i64 f, .int .i64 g]] w fun e w' => e = .returned (.bool true) ∧ Below w.heap.size w w' := by
  have q1 : ∀ w, (binOp .eql 25 (.agg #[.int .i64 a, .int .i64 b]) (.agg #[.int .i64 c, .int .i64 d])).run Try.prog w = .ok (.bool false) w := fun w => by rw [run_eql_stamp]; simp only [hne, decide_false]
  have q2 : ∀ w, (binOp .neq 25 (.agg #[.int .i64 a, .int .i64 b]) (.agg #[.int .i64 c, .int .i64 d])).run Try.prog w = .ok (.bool true) w := fun w => by rw [run_neq_stamp]; simp only [hne, decide_false, Bool.not_false]
  clear hne
  go_enter Try.func8, Try.ntmps8
  go_wp2_with fail
  have hB0 : Below w.heap.size w (((w.alloc (.cells #[.int .i64 a, .int .i64 b] 25)).alloc (.cells #[.int .i64 c, .int .i64 d] 25)).alloc (.cells #[.int .i64 f, .int .i64 g] 25)) := (((Below.refl _ _).alloc (Nat.le_refl _) _).alloc (by simp) _).alloc (by simp; omega) _
  have c1 : (((w.alloc (.cells #[.int .i64 a, .int .i64 b] 25)).alloc (.cells #[.int .i64 c, .int .i64 d] 25)).alloc (.cells #[.int .i64 f, .int .i64 g] 25)).cell? ⟨w.heap.size, 0, none⟩ = some (.int .i64 a) := by simp [go_sem]
  have c2 : (((w.alloc (.cells #[.int .i64 a, .int .i64 b] 25)).alloc (.cells #[.int .i64 c, .int .i64 d] 25)).alloc (.cells #[.int .i64 f, .int .i64 g] 25)).cell? ⟨w.heap.size, 1, none⟩ = some (.int .i64 b) := by simp [go_sem]
  have c3 : (((w.alloc (.cells #[.int .i64 a, .int .i64 b] 25)).alloc (.cells #[.int .i64 c, .int .i64 d] 25)).alloc (.cells #[.int .i64 f, .int .i64 g] 25)).cell? ⟨w.heap.size + 1, 0, none⟩ = some (.int .i64 c) := by simp [go_sem]
  have c4 : (((w.alloc (.cells #[.int .i64 a, .int .i64 b] 25)).alloc (.cells #[.int .i64 c, .int .i64 d] 25)).alloc (.cells #[.int .i64 f, .int .i64 g] 25)).cell? ⟨w.heap.size + 1, 1, none⟩ = some (.int .i64 d) := by simp [go_sem]
  have c5 : (((w.alloc (.cells #[.int .i64 a, .int .i64 b] 25)).alloc (.cells #[.int .i64 c, .int .i64 d] 25)).alloc (.cells #[.int .i64 f, .int .i64 g] 25)).cell? ⟨w.heap.size + 1 + 1, 0, none⟩ = some (.int .i64 f) := by simp [go_sem]
  have c6 : (((w.alloc (.cells #[.int .i64 a, .int .i64 b] 25)).alloc (.cells #[.int .i64 c, .int .i64 d] 25)).alloc (.cells #[.int .i64 f, .int .i64 g] 25)).cell? ⟨w.heap.size + 1 + 1, 1, none⟩ = some (.int .i64 g) := by simp [go_sem]
  generalize (((w.alloc (.cells #[.int .i64 a, .int .i64 b] 25)).alloc (.cells #[.int .i64 c, .int .i64 d] 25)).alloc (.cells #[.int .i64 f, .int .i64 g] 25)) = W at *
  have k1 := fun x : After W => x.cell c1
  have k2 := fun x : After W => x.cell c2
  have k3 := fun x : After W => x.cell c3
  have k4 := fun x : After W => x.cell c4
  refine wp_region_after (by kernel_rfl) (by kernel_rfl) ?_
  repeat (go_big_quiet_step ((go_at_call 23; exact after_call (less_is _ _ _ _ _ (by assumption) _))))
  refine wpQuiet_nil ?_
  rintro _ ⟨x, rfl⟩
  have d1 := x.cell c1
  have d2 := x.cell c2
  have d3 := x.cell c3
  have d4 := x.cell c4
  have d5 := x.cell c5
  have d6 := x.cell c6
  have hB1 : Below w.heap.size w x.wd := hB0.trans (x.below.mono hB0.size)
  clear k1 k2 k3 k4 c1 c2 c3 c4 c5 c6
  generalize x.wd = W2 at *
  clear x hB0
  clear W
  go_wp2_with fail
  refine (less_is _ _ _ _ _ e1 _).mono ?_
  rintro e3 W3 ⟨rfl, hb3⟩
  have d1 := cell_below hb3 (cell_lt d1) d1
  have d2 := cell_below hb3 (cell_lt d2) d2
  have d3 := cell_below hb3 (cell_lt d3) d3
  have d4 := cell_below hb3 (cell_lt d4) d4
  have d5 := cell_below hb3 (cell_lt d5) d5
  have d6 := cell_below hb3 (cell_lt d6) d6
  have hB1 := hB1.trans (hb3.mono hB1.size)
  go_wp2_with fail
  refine (awake_any _).mono ?_
  rintro e9 W9 ⟨rfl, hb9⟩
  go_wp2_with fail
  go_ret
  exact ⟨rfl, hB1.trans (hb9.mono hB1.size)⟩

set_option maxHeartbeats 1000000 in
theorem law_order_tf (a b c d f g : Int) (w : World) (hne : ¬(a = c ∧ b = d)) (e1 : lessB a b c d = true) (e2 : lessB c d a b = false) (e3 : lessB c d f g = false) :
    Calls Try.prog 8 #[.agg #[.int .i64 a, .int .i64 b], .agg #[.int .i64 c, .int .i64 d], .agg #[.int .i64 f, .int .i64 g]] w fun e w' => e = .returned (.bool true) ∧ Below w.heap.size w w' := by
  have q1 : ∀ w, (binOp .eql 25 (.agg #[.int .i64 a, .int .i64 b]) (.agg #[.int .i64 c, .int .i64 d])).run Try.prog w = .ok (.bool false) w := fun w => by rw [run_eql_stamp]; simp only [hne, decide_false]
  have q2 : ∀ w, (binOp .neq 25 (.agg #[.int .i64 a, .int .i64 b]) (.agg #[.int .i64 c, .int .i64 d])).run Try.prog w = .ok (.bool true) w := fun w => by rw [run_neq_stamp]; simp only [hne, decide_false, Bool.not_false]
  clear hne
  go_enter Try.func8, Try.ntmps8
  go_wp2_with fail
  have hB0 : Below w.heap.size w (((w.alloc (.cells #[.int .i64 a, .int .i64 b] 25)).alloc (.cells #[.int .i64 c, .int .i64 d] 25)).alloc (.cells #[.int .i64 f, .int .i64 g] 25)) := (((Below.refl _ _).alloc (Nat.le_refl _) _).alloc (by simp) _).alloc (by simp; omega) _
  have c1 : (((w.alloc (.cells #[.int .i64 a, .int .i64 b] 25)).alloc (.cells #[.int .i64 c, .int .i64 d] 25)).alloc (.cells #[.int .i64 f, .int .i64 g] 25)).cell? ⟨w.heap.size, 0, none⟩ = some (.int .i64 a) := by simp [go_sem]
  have c2 : (((w.alloc (.cells #[.int .i64 a, .int .i64 b] 25)).alloc (.cells #[.int .i64 c, .int .i64 d] 25)).alloc (.cells #[.int .i64 f, .int .i64 g] 25)).cell? ⟨w.heap.size, 1, none⟩ = some (.int .i64 b) := by simp [go_sem]
  have c3 : (((w.alloc (.cells #[.int .i64 a, .int .i64 b] 25)).alloc (.cells #[.int .i64 c, .int .i64 d] 25)).alloc (.cells #[.int .i64 f, .int .i64 g] 25)).cell? ⟨w.heap.size + 1, 0, none⟩ = some (.int .i64 c) := by simp [go_sem]
  have c4 : (((w.alloc (.cells #[.int .i64 a, .int .i64 b] 25)).alloc (.cells #[.int .i64 c, .int .i64 d] 25)).alloc (.cells #[.int .i64 f, .int .i64 g] 25)).cell? ⟨w.heap.size + 1, 1, none⟩ = some (.int .i64 d) := by simp [go_sem]
  have c5 : (((w.alloc (.cells #[.int .i64 a, .int .i64 b] 25)).alloc (.cells #[.int .i64 c, .int .i64 d] 25)).alloc (.cells #[.int .i64 f, .int .i64 g] 25)).cell? ⟨w.heap.size + 1 + 1, 0, none⟩ = some (.int .i64 f) := by simp [go_sem]
  have c6 : (((w.alloc (.cells #[.int .i64 a, .int .i64 b] 25)).alloc (.cells #[.int .i64 c, .int .i64 d] 25)).alloc (.cells #[.int .i64 f, .int .i64 g] 25)).cell? ⟨w.heap.size + 1 + 1, 1, none⟩ = some (.int .i64 g) := by simp [go_sem]
  generalize (((w.alloc (.cells #[.int .i64 a, .int .i64 b] 25)).alloc (.cells #[.int .i64 c, .int .i64 d] 25)).alloc (.cells #[.int .i64 f, .int .i64 g] 25)) = W at *
  have k1 := fun x : After W => x.cell c1
  have k2 := fun x : After W => x.cell c2
  have k3 := fun x : After W => x.cell c3
  have k4 := fun x : After W => x.cell c4
  refine wp_region_after (by kernel_rfl) (by kernel_rfl) ?_
  repeat (go_big_quiet_step ((go_at_call 23; exact after_call (less_is _ _ _ _ _ (by assumption) _))))
  refine wpQuiet_nil ?_
  rintro _ ⟨x, rfl⟩
  have d1 := x.cell c1
  have d2 := x.cell c2
  have d3 := x.cell c3
  have d4 := x.cell c4
  have d5 := x.cell c5
  have d6 := x.cell c6
  have hB1 : Below w.heap.size w x.wd := hB0.trans (x.below.mono hB0.size)
  clear k1 k2 k3 k4 c1 c2 c3 c4 c5 c6
  generalize x.wd = W2 at *
  clear x hB0
  clear W
  go_wp2_with fail
  refine (less_is _ _ _ _ _ e1 _).mono ?_
  rintro e3 W3 ⟨rfl, hb3⟩
  have d1 := cell_below hb3 (cell_lt d1) d1
  have d2 := cell_below hb3 (cell_lt d2) d2
  have d3 := cell_below hb3 (cell_lt d3) d3
  have d4 := cell_below hb3 (cell_lt d4) d4
  have d5 := cell_below hb3 (cell_lt d5) d5
  have d6 := cell_below hb3 (cell_lt d6) d6
  have hB1 := hB1.trans (hb3.mono hB1.size)
  go_wp2_with fail
  refine (less_is _ _ _ _ _ e3 _).mono ?_
  rintro e4 W4 ⟨rfl, hb4⟩
  have d1 := cell_below hb4 (cell_lt d1) d1
  have d2 := cell_below hb4 (cell_lt d2) d2
  have d3 := cell_below hb4 (cell_lt d3) d3
  have d4 := cell_below hb4 (cell_lt d4) d4
  have d5 := cell_below hb4 (cell_lt d5) d5
  have d6 := cell_below hb4 (cell_lt d6) d6
  have hB1 := hB1.trans (hb4.mono hB1.size)
  go_wp2_with fail
  refine (awake_any _).mono ?_
  rintro e9 W9 ⟨rfl, hb9⟩
  go_wp2_with fail
  go_ret
  exact ⟨rfl, hB1.trans (hb9.mono hB1.size)⟩

set_option maxHeartbeats 1000000 in
theorem law_order_tt (a b c d f g : Int) (w : World) (hne : ¬(a = c ∧ b = d)) (e1 : lessB a b c d = true) (e2 : lessB c d a b = false) (e3 : lessB c d f g = true) (e4 : lessB a b f g = true) :
    Calls Try.prog 8 #[.agg #[.int .i64 a, .int .i64 b], .agg #[.int .i64 c, .int .i64 d], .agg #[.int .i64 f, .int .i64 g]] w fun e w' => e = .returned (.bool true) ∧ Below w.heap.size w w' := by
  have q1 : ∀ w, (binOp .eql 25 (.agg #[.int .i64 a, .int .i64 b]) (.agg #[.int .i64 c, .int .i64 d])).run Try.prog w = .ok (.bool false) w := fun w => by rw [run_eql_stamp]; simp only [hne, decide_false]
  have q2 : ∀ w, (binOp .neq 25 (.agg #[.int .i64 a, .int .i64 b]) (.agg #[.int .i64 c, .int .i64 d])).run Try.prog w = .ok (.bool true) w := fun w => by rw [run_neq_stamp]; simp only [hne, decide_false, Bool.not_false]
  clear hne
  go_enter Try.func8, Try.ntmps8
  go_wp2_with fail
  have hB0 : Below w.heap.size w (((w.alloc (.cells #[.int .i64 a, .int .i64 b] 25)).alloc (.cells #[.int .i64 c, .int .i64 d] 25)).alloc (.cells #[.int .i64 f, .int .i64 g] 25)) := (((Below.refl _ _).alloc (Nat.le_refl _) _).alloc (by simp) _).alloc (by simp; omega) _
  have c1 : (((w.alloc (.cells #[.int .i64 a, .int .i64 b] 25)).alloc (.cells #[.int .i64 c, .int .i64 d] 25)).alloc (.cells #[.int .i64 f, .int .i64 g] 25)).cell? ⟨w.heap.size, 0, none⟩ = some (.int .i64 a) := by simp [go_sem]
  have c2 : (((w.alloc (.cells #[.int .i64 a, .int .i64 b] 25)).alloc (.cells #[.int .i64 c, .int .i64 d] 25)).alloc (.cells #[.int .i64 f, .int .i64 g] 25)).cell? ⟨w.heap.size, 1, none⟩ = some (.int .i64 b) := by simp [go_sem]
  have c3 : (((w.alloc (.cells #[.int .i64 a, .int .i64 b] 25)).alloc (.cells #[.int .i64 c, .int .i64 d] 25)).alloc (.cells #[.int .i64 f, .int .i64 g] 25)).cell? ⟨w.heap.size + 1, 0, none⟩ = some (.int .i64 c) := by simp [go_sem]
  have c4 : (((w.alloc (.cells #[.int .i64 a, .int .i64 b] 25)).alloc (.cells #[.int .i64 c, .int .i64 d] 25)).alloc (.cells #[.int .i64 f, .int .i64 g] 25)).cell? ⟨w.heap.size + 1, 1, none⟩ = some (.int .i64 d) := by simp [go_sem]
  have c5 : (((w.alloc (.cells #[.int .i64 a, .int .i64 b] 25)).alloc (.cells #[.int .i64 c, .int .i64 d] 25)).alloc (.cells #[.int .i64 f, .int .i64 g] 25)).cell? ⟨w.heap.size + 1 + 1, 0, none⟩ = some (.int .i64 f) := by simp [go_sem]
  have c6 : (((w.alloc (.cells #[.int .i64 a, .int .i64 b] 25)).alloc (.cells #[.int .i64 c, .int .i64 d] 25)).alloc (.cells #[.int .i64 f, .int .i64 g] 25)).cell? ⟨w.heap.size + 1 + 1, 1, none⟩ = some (.int .i64 g) := by simp [go_sem]
  generalize (((w.alloc (.cells #[.int .i64 a, .int .i64 b] 25)).alloc (.cells #[.int .i64 c, .int .i64 d] 25)).alloc (.cells #[.int .i64 f, .int .i64 g] 25)) = W at *
  have k1 := fun x : After W => x.cell c1
  have k2 := fun x : After W => x.cell c2
  have k3 := fun x : After W => x.cell c3
  have k4 := fun x : After W => x.cell c4
  refine wp_region_after (by kernel_rfl) (by kernel_rfl) ?_
  repeat (go_big_quiet_step ((go_at_call 23; exact after_call (less_is _ _ _ _ _ (by assumption) _))))
  refine wpQuiet_nil ?_
  rintro _ ⟨x, rfl⟩
  have d1 := x.cell c1
  have d2 := x.cell c2
  have d3 := x.cell c3
  have d4 := x.cell c4
  have d5 := x.cell c5
  have d6 := x.cell c6
  have hB1 : Below w.heap.size w x.wd := hB0.trans (x.below.mono hB0.size)
  clear k1 k2 k3 k4 c1 c2 c3 c4 c5 c6
  generalize x.wd = W2 at *
  clear x hB0
  clear W
  go_wp2_with fail
  refine (less_is _ _ _ _ _ e1 _).mono ?_
  rintro e3 W3 ⟨rfl, hb3⟩
  have d1 := cell_below hb3 (cell_lt d1) d1
  have d2 := cell_below hb3 (cell_lt d2) d2
  have d3 := cell_below hb3 (cell_lt d3) d3
  have d4 := cell_below hb3 (cell_lt d4) d4
  have d5 := cell_below hb3 (cell_lt d5) d5
  have d6 := cell_below hb3 (cell_lt d6) d6
  have hB1 := hB1.trans (hb3.mono hB1.size)
  go_wp2_with fail
  refine (less_is _ _ _ _ _ e3 _).mono ?_
  rintro e4 W4 ⟨rfl, hb4⟩
  have d1 := cell_below hb4 (cell_lt d1) d1
  have d2 := cell_below hb4 (cell_lt d2) d2
  have d3 := cell_below hb4 (cell_lt d3) d3
  have d4 := cell_below hb4 (cell_lt d4) d4
  have d5 := cell_below hb4 (cell_lt d5) d5
  have d6 := cell_below hb4 (cell_lt d6) d6
  have hB1 := hB1.trans (hb4.mono hB1.size)
  go_wp2_with fail
  refine (less_is _ _ _ _ _ e4 _).mono ?_
  rintro e5 W5 ⟨rfl, hb5⟩
  have d1 := cell_below hb5 (cell_lt d1) d1
  have d2 := cell_below hb5 (cell_lt d2) d2
  have d3 := cell_below hb5 (cell_lt d3) d3
  have d4 := cell_below hb5 (cell_lt d4) d4
  have d5 := cell_below hb5 (cell_lt d5) d5
  have d6 := cell_below hb5 (cell_lt d6) d6
  have hB1 := hB1.trans (hb5.mono hB1.size)
  go_wp2_with fail
  refine (awake_any _).mono ?_
  rintro e9 W9 ⟨rfl, hb9⟩
  go_wp2_with fail
  go_ret
  exact ⟨rfl, hB1.trans (hb9.mono hB1.size)⟩

theorem law_order (a b c d f g : Int) (w : World) :
    Calls Try.prog 8 #[.agg #[.int .i64 a, .int .i64 b], .agg #[.int .i64 c, .int .i64 d], .agg #[.int .i64 f, .int .i64 g]] w fun e w' => e = .returned (.bool true) ∧ Below w.heap.size w w' := by
  by_cases h : a = c ∧ b = d
  · obtain ⟨rfl, rfl⟩ := h
    exact law_order_eq a b f g w
  by_cases h1 : a < c ∨ a = c ∧ b < d
  · have e1 : lessB a b c d = true := by simp [lessB]; omega
    have e2 : lessB c d a b = false := by simp [lessB]; omega
    by_cases h3 : c < f ∨ c = f ∧ d < g
    · exact law_order_tt a b c d f g w h e1 e2 (by simp [lessB]; omega) (by simp [lessB]; omega)
    · exact law_order_tf a b c d f g w h e1 e2 (by simp [lessB]; omega)
  · exact law_order_f a b c d f g w h (by simp [lessB]; omega) (by simp [lessB]; omega)
end Go.Proofs.Ytdoghihjanlgpaa
