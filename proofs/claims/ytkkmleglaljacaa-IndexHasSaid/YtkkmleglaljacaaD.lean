/- The document's 'with'. -/
import Derived.Test.YtkkmleglaljacaaC
namespace Go.Proofs.Ytkkmleglaljacaa
open Go.RowKit

theorem both_right {g x : Rg} (hg : RightR g) (hx : RightR x) : RightR (both g x) := by
  unfold RightR both at *
  simp only
  omega
theorem Blk.rg_new (W : World) (x : Rg) : Blk (W.alloc (.cells #[.int .i64 x.w, .int .i64 x.f, .int .i64 x.t] 33)) W.heap.size 33 #[.int .i64 x.w, .int .i64 x.f, .int .i64 x.t] := Blk.new _ _ _

theorem row_ne {w : World} {B : Nat} {e : TypeId} {size n : Nat} {v : Value} {xs : List Value} (h : w.ownsRow B e size v n xs) {q : Nat} (hq : w.heap.size ≤ q) : v.ownBlock ≠ some q := by
  intro e2
  rcases h.2 with ⟨rfl, _⟩ | ⟨g, cap, cur, rfl, hb, hh, _⟩
  · simp [Value.ownBlock] at e2
  · simp [Value.ownBlock] at e2
    have := Blk.lt (t := e) (cs := cur) hh
    omega
theorem row_far {w : World} {B : Nat} {e : TypeId} {size n : Nat} {v : Value} {xs : List Value} (h : w.ownsRow B e size v n xs) {p : Addr} (hp : p.block < B) (u : Value) : (w.setCell p u).ownsRow B e size v n xs := by
  refine h.kept (gb_setCell (gb_refl w (some p.block)) (.inl rfl) u) (.inr fun e => ?_)
  rcases h.2 with ⟨rfl, _⟩ | ⟨g, cap, cur, rfl, hb, _⟩
  · simp [Value.ownBlock] at e
  · simp [Value.ownBlock] at e; omega

set_option maxRecDepth 100000 in
set_option maxHeartbeats 4000000 in
theorem with_any (len cap : Nat) (A : Option Addr) (xs : List Rg) (g0 : Rg) (w : World) (hx : Sl w 3 RgC A len cap xs) (hlen : len ≤ 100000) (hr : ∀ x ∈ xs, RightR x) (hg0 : RightR g0) :
    Calls Try.prog 27 #[.slice A len cap, rv g0] w fun e w' => ∃ v, e = .returned v ∧ w'.ownsRow w.heap.size 33 3 v (withL xs g0 false).length (rcs (withL xs g0 false)) ∧ Below w.heap.size w w' := by
  have hl := hx.len
  obtain ⟨w1, hw1⟩ : ∃ w1, w1 = w.alloc (.cells #[.int .i64 g0.w, .int .i64 g0.f, .int .i64 g0.t] 33) := ⟨_, rfl⟩
  have hB1 : Blk w1 w.heap.size 33 #[.int .i64 g0.w, .int .i64 g0.f, .int .i64 g0.t] := by rw [hw1]; exact Blk.new _ _ _
  have hb1 : Below w.heap.size w w1 := by rw [hw1]; exact (Below.refl _ w).alloc (Nat.le_refl _) _
  have hs1 : w1.heap.size = w.heap.size + 1 := by rw [hw1]; simp
  have HX := Lib.hid hx
  have HW := Lib.hid hw1
  have HB1 := Lib.hid hB1
  have Hb1 := Lib.hid hb1
  have HS1 := Lib.hid hs1
  clear hx hw1 hB1 hb1 hs1
  unfold rv
  go_enter Try.func27, Try.ntmps27
  go_wp2_with fail
  rw [← HW.out]
  go_loopw [5, 6, 7] (fun u p i wr => ∃ (k : Nat) (g : Rg) (put : Bool) (L : List Rg), k ≤ len ∧ i = .int .i64 k ∧ p = .bool put ∧ withL xs g0 false = L ++ withL (xs.drop k) g put ∧ RightR g ∧ L.length ≤ 2 * k ∧ Blk wr w.heap.size 33 #[.int .i64 g.w, .int .i64 g.f, .int .i64 g.t] ∧
    wr.ownsRow (w.heap.size + 1) 33 3 u L.length (rcs L) ∧ Below w.heap.size w wr ∧ w.heap.size + 1 ≤ wr.heap.size) (fun _ _ i _ => len - (intOf i).toNat)
  case atStart => exact ⟨0, g0, false, [], by omega, rfl, rfl, rfl, hg0, by simp, HB1.out, World.ownsRow_nil _ _ _ _, Hb1.out, by rw [HS1.out]; omega⟩
  case round =>
    obtain ⟨k, g, put, L, hk, rfl, rfl, hW, hg, hLk, hG, hO, hB, hS⟩ := hrel
    rcases Nat.lt_or_ge k len with hlt | hge
    · have hkl : k < xs.length := by omega
      obtain ⟨b, off, rfl, hbl, c0, c1, c2, _⟩ := Sl.rg_at HX.out hkl
      have d0 := (hB.cell (p := ⟨b, off + k * 3, none⟩) hbl).trans c0
      have d1 := (hB.cell (p := ⟨b, off + k * 3 + 1, none⟩) hbl).trans c1
      have d2 := (hB.cell (p := ⟨b, off + k * 3 + 2, none⟩) hbl).trans c2
      have hdk := List.drop_eq_getElem_cons hkl
      have hxr := hr xs[k] (List.getElem_mem hkl)
      obtain ⟨x, hx⟩ : ∃ x, xs[k] = x := ⟨_, rfl⟩
      rw [hx] at d0 d1 d2 hdk hxr
      rw [hdk, withL] at hW
      obtain ⟨w3, hw3⟩ : ∃ w3, w3 = wr.alloc (.cells #[.int .i64 x.w, .int .i64 x.f, .int .i64 x.t] 33) := ⟨_, rfl⟩
      have hb3 : Below wr.heap.size wr w3 := by rw [hw3]; exact (Below.refl _ wr).alloc (Nat.le_refl _) _
      have hX : Blk w3 wr.heap.size 33 #[.int .i64 x.w, .int .i64 x.f, .int .i64 x.t] := by rw [hw3]; exact Blk.new _ _ _
      have hG3 := hG.below hb3 hG.lt
      have hO3 := row_below hO hb3
      have hB3 := hB.trans (hb3.mono hB.size)
      have hs3 : w3.heap.size = wr.heap.size + 1 := by rw [hw3]; simp
      obtain ⟨g0', g1', g2'⟩ := blk3 hG3
      have f1 := hG3.frozen 1
      have f2 := hG3.frozen 2
      rw [hw3] at g0' g1' g2' f1 f2
      have hgl := hG.lt
      have hne : w.heap.size ≠ wr.heap.size := by omega
      have HW3 := Lib.hid hw3
      have HG0 := Lib.hid hG
      have HO0 := Lib.hid hO
      have HB0 := Lib.hid hB
      have HB3 := Lib.hid hB3
      have HX3 := Lib.hid hX
      have HO3 := Lib.hid hO3
      have HG3 := Lib.hid hG3
      have HS3 := Lib.hid hs3
      have HG := Lib.hid hg
      have HXR := Lib.hid hxr
      obtain ⟨A3, c3, rfl⟩ := row_slice hO3
      clear hb3 hX hG3 hB hw3 hB3 hs3 hO hO3 c0 c1 c2 hdk hx hG
      unfold RightR at hg hxr
      obtain ⟨gr0, gr1, gr2, gr3, gr4⟩ := hg
      obtain ⟨xr0, xr1, xr2, xr3, xr4⟩ := hxr
      by_cases hT : Touch x g
      · rw [if_pos hT] at hW
        unfold Touch at hT
        have t1 : (x.w == g.w) = true := by simp [hT.1]
        have t2 : decide (x.f ≤ g.t + 1) = true := decide_eq_true hT.2.1
        have t3 : decide (g.f ≤ x.t + 1) = true := decide_eq_true hT.2.2
        have HWL := Lib.hid hW
        have hS1 : Blk (wr.setCell ⟨w.heap.size, 1, none⟩ (.int .i64 (min g.f x.f))) w.heap.size 33 #[.int .i64 g.w, .int .i64 (min g.f x.f), .int .i64 g.t] := HG0.out.set_ 1 _
        have hS2 := hS1.alloc (.cells #[.int .i64 x.w, .int .i64 x.f, .int .i64 x.t] 33)
        obtain ⟨_, _, k2⟩ := blk3 hS2
        have kf2 := hS2.frozen 2
        have hS3 : Blk ((wr.setCell ⟨w.heap.size, 1, none⟩ (.int .i64 (min g.f x.f))).setCell ⟨w.heap.size, 2, none⟩ (.int .i64 (max g.t x.t))) w.heap.size 33 #[.int .i64 g.w, .int .i64 (min g.f x.f), .int .i64 (max g.t x.t)] := hS1.set_ 2 _
        have HS3' := Lib.hid (hS3.alloc (.cells #[.int .i64 x.w, .int .i64 x.f, .int .i64 x.t] 33))
        clear hT hW gr0 gr1 xr0 xr1 hS1 hS2 hS3
        go_wp2_with fail
        refine ⟨⟨k + 1, both g x, put, L, by omega, by go_num, rfl, HWL.out, both_right HG.out HXR.out, by omega, HS3'.out, ((row_far (row_far HO0.out (p := ⟨w.heap.size, 1, none⟩) (by simp) _) (p := ⟨w.heap.size, 2, none⟩) (by simp) _).alloc _), ?_, ?_⟩, by simp [intOf]; omega⟩
        · exact ((HB0.out.setCell (p := ⟨w.heap.size, 1, none⟩) (Nat.le_refl _) _).setCell (p := ⟨w.heap.size, 2, none⟩) (Nat.le_refl _) _).alloc (by simp [World.setCell]; omega) _
        · simp [World.setCell]; omega
      · rw [if_neg hT] at hW
        unfold Touch at hT
        by_cases hN : put = false ∧ Later x g
        · rw [if_pos hN] at hW
          obtain ⟨rfl, hN⟩ := hN
          have HWL := Lib.hid hW
          clear hW
          by_cases hw : x.w = g.w
          case' pos =>
            have t1 : (x.w == g.w) = true := by simp [hw]
            have t2 : decide (x.f ≤ g.t + 1) = false := decide_eq_false (by unfold Later at hN; omega)
            have t4 : decide (x.w > g.w) = false := decide_eq_false (by omega)
            have t5 : decide (x.f > g.t) = true := decide_eq_true (by unfold Later at hN; omega)
            clear hN hT hw gr0 gr1 xr0 xr1
          case' neg =>
            have t1 : (x.w == g.w) = false := by simp [hw]
            have t4 : decide (x.w > g.w) = true := decide_eq_true (by unfold Later at hN; omega)
            clear hN hT hw gr0 gr1 xr0 xr1
          all_goals
            have hml : L.length ≤ 1000000 := by omega
            have hml1 : L.length + 1 ≤ 1000000 := by omega
            have ho4 := HO0.out.alloc (.cells #[.int .i64 x.w, .int .i64 x.f, .int .i64 x.t] 33)
            have hs4 : w.heap.size + 1 ≤ (wr.alloc (.cells #[.int .i64 x.w, .int .i64 x.f, .int .i64 x.t] 33)).heap.size := by simp; omega
            have hXn : Blk (wr.alloc (.cells #[.int .i64 x.w, .int .i64 x.f, .int .i64 x.t] 33)) wr.heap.size 33 #[.int .i64 x.w, .int .i64 x.f, .int .i64 x.t] := Blk.new _ _ _
            have HXn := Lib.hid hXn
            have HNe := Lib.hid (row_ne HO0.out (Nat.le_refl _))
            clear hXn
            go_wp2_with (first
              | (at_builtin; refine wpList_app3 (wr.alloc (.cells #[.int .i64 x.w, .int .i64 x.f, .int .i64 x.t] 33)) g rfl (.tmp 75) (.tmp 77) rfl (w.heap.size + 1) (.slice A3 L.length c3) L.length L rfl ho4 (by simp [Act.eval]) hml hs4 ?_; intro g4 cap4 w4 ho5 hb5 hg5 _; obtain ⟨y0, y1, y2⟩ := blk3 (HXn.out.grown hg5 (fun e => HNe.out e.symm)); have HO5 := Lib.hid ho5; have HB5 := Lib.hid hb5; clear ho5 hb5 hg5)
              | (at_builtin; refine wpList_app3 w4 x rfl (.tmp 79) (.tmp 81) rfl (w.heap.size + 1) (.slice (some ⟨g4, 0, none⟩) (L.length + 1) cap4) (L.length + 1) (L ++ [g]) rfl HO5.out (by simp [Act.eval]) hml1 (Nat.le_trans hs4 HB5.out.size) ?_; intro g6 cap6 w6 ho7 hb7 _ _; have HO7 := Lib.hid ho7; have HB7 := Lib.hid hb7; clear ho7 hb7))
            have hbw : Below (w.heap.size + 1) wr w6 := ((Below.refl _ wr).alloc hS _).trans (HB5.out.trans HB7.out)
            exact ⟨⟨k + 1, g, true, L ++ [g] ++ [x], by omega, by go_num, rfl, by rw [HWL.out]; simp, HG.out, by simp; omega, HG0.out.below hbw (by omega), by simpa using HO7.out, HB0.out.trans (hbw.mono (by omega)), Nat.le_trans hS hbw.size⟩, by simp [intOf]; omega⟩
        · rw [if_neg hN] at hW
          have HWL := Lib.hid hW
          have hml : L.length ≤ 1000000 := by omega
          have hXn : Blk (wr.alloc (.cells #[.int .i64 x.w, .int .i64 x.f, .int .i64 x.t] 33)) wr.heap.size 33 #[.int .i64 x.w, .int .i64 x.f, .int .i64 x.t] := Blk.new _ _ _
          have ho4 := HO0.out.alloc (.cells #[.int .i64 x.w, .int .i64 x.f, .int .i64 x.t] 33)
          have hs4 : w.heap.size + 1 ≤ (wr.alloc (.cells #[.int .i64 x.w, .int .i64 x.f, .int .i64 x.t] 33)).heap.size := by simp; omega
          clear hW hXn
          rcases Int.lt_trichotomy x.w g.w with c | c | c
          case' inl =>
            have t1 : (x.w == g.w) = false := by simp; omega
            have t4 : decide (x.w > g.w) = false := decide_eq_false (by omega)
            clear hN hT c gr0 gr1 xr0 xr1
            cases put
          case' inr.inl =>
            by_cases c2 : x.f ≤ g.t + 1
            case' pos =>
              have t1 : (x.w == g.w) = true := by simp [c]
              have t2 : decide (x.f ≤ g.t + 1) = true := decide_eq_true c2
              have t3 : decide (g.f ≤ x.t + 1) = false := decide_eq_false (by omega)
              have t4 : decide (x.w > g.w) = false := decide_eq_false (by omega)
              have t5 : decide (x.f > g.t) = false := decide_eq_false (by omega)
              clear hN hT c c2 gr0 gr1 xr0 xr1
              cases put
            case' neg =>
              obtain rfl : put = true := by
                cases put
                · exact (hN ⟨rfl, .inr ⟨c, by omega⟩⟩).elim
                · rfl
              have t1 : (x.w == g.w) = true := by simp [c]
              have t2 : decide (x.f ≤ g.t + 1) = false := decide_eq_false c2
              clear hN hT c c2 gr0 gr1 xr0 xr1
          case' inr.inr =>
            obtain rfl : put = true := by
              cases put
              · exact (hN ⟨rfl, .inl c⟩).elim
              · rfl
            have t1 : (x.w == g.w) = false := by simp; omega
            clear hN hT c gr0 gr1 xr0 xr1
          all_goals
            go_wp2_with (at_builtin; refine wpList_app3 (wr.alloc (.cells #[.int .i64 x.w, .int .i64 x.f, .int .i64 x.t] 33)) x rfl (.tmp 79) (.tmp 81) rfl (w.heap.size + 1) (.slice A3 L.length c3) L.length L rfl ho4 (by simp [Act.eval]) hml hs4 ?_; intro g6 cap6 w6 ho7 hb7 _ _; have HO7 := Lib.hid ho7; have HB7 := Lib.hid hb7; clear ho7 hb7)
            have hbw : Below (w.heap.size + 1) wr w6 := ((Below.refl _ wr).alloc hS _).trans HB7.out
            exact ⟨⟨k + 1, g, _, L ++ [x], by omega, by go_num, rfl, by rw [HWL.out]; simp, HG.out, by simp; omega, HG0.out.below hbw (by omega), by simpa using HO7.out, HB0.out.trans (hbw.mono (by omega)), Nat.le_trans hS hbw.size⟩, by simp [intOf]; omega⟩
    · obtain rfl : k = len := by omega
      rw [List.drop_of_length_le (by omega), withL] at hW
      obtain ⟨A3, c3, rfl⟩ := row_slice hO
      obtain ⟨g0', g1', g2'⟩ := blk3 hG
      have HO0 := Lib.hid hO
      have HB0 := Lib.hid hB
      have hml : L.length ≤ 1000000 := by omega
      cases put with
      | true =>
        rw [if_pos rfl, List.append_nil] at hW
        have HWE := Lib.hid hW
        clear hO hB hG g0' g1' g2' hW
        go_wp2_with fail
        go_ret
        exact ⟨_, rfl, by rw [HWE.out]; exact row_mono HO0.out (Nat.le_succ _), HB0.out⟩
      | false =>
        rw [if_neg (by simp)] at hW
        have HWE := Lib.hid hW
        clear hO hB hG hW
        go_wp2_with (at_builtin; refine wpList_app3 wr g rfl (.tmp 85) (.tmp 87) rfl (w.heap.size + 1) (.slice A3 L.length c3) L.length L rfl HO0.out (by simp [Act.eval]) hml hS ?_; intro g6 cap6 w6 ho7 hb7 _ _; have HO7 := Lib.hid ho7; have HB7 := Lib.hid hb7; clear ho7 hb7)
        go_ret
        exact ⟨_, rfl, by rw [HWE.out]; exact row_mono (by simpa using HO7.out) (Nat.le_succ _), HB0.out.trans (HB7.out.mono (by omega))⟩
end Go.Proofs.Ytkkmleglaljacaa
