/- sync.Once.Do at the table, a table's step. -/
import Derived.Test.YtanplhmnmicdaaaA
namespace Go.Proofs.Ytanplhmnmicdaaa
open Go.RowKit

theorem load_is (b : Nat) (d : Int) (r : Bool) (hr : (d != 0) = r) (w : World) (hc : w.cell? ⟨b, 0, none⟩ = some (.int .u32 d)) :
    Calls Try.prog 16 #[.pointer (some ⟨b, 0, none⟩)] w fun e w' => e = .returned (.bool r) ∧ w = w' := by
  subst hr
  have hl := run_call_load (P := Try.prog) Try.func18 (by kernel_rfl) (by kernel_rfl) (by kernel_rfl) .u32 (by kernel_rfl) hc
  go_enter Try.func16, Try.ntmps16
  go_wp2_with fail
  go_ret
  exact ⟨rfl, rfl⟩

set_option maxRecDepth 100000 in
set_option maxHeartbeats 1600000 in
theorem slow_any (p b : Nat) (hpb : p ≠ b) (w : World) (hT : Tab w b 0 0 0) (hp : w.cell? ⟨p, 0, none⟩ = some (.pointer (some ⟨b, 0, none⟩))) :
    Calls Try.prog 17 #[.pointer (some ⟨b, 0, none⟩), .func (.func 15) #[] #[.pointer (some ⟨p, 0, none⟩)]] w fun e w' => e = .returned (.tuple #[]) ∧ Tab w' b 1 0 256 ∧ w.grownBy w' (some b) := by
  have hc1 := hT.c1
  have hf1 := hT.fr 1
  have hT1 := hT.set1 1
  have hp1 : (w.setCell ⟨b, 1, none⟩ (.int .i32 1)).cell? ⟨p, 0, none⟩ = some (.pointer (some ⟨b, 0, none⟩)) := (World.cell?_setCell_other _ ⟨b, 1, none⟩ ⟨p, 0, none⟩ _ (fun h => hpb (by have := congrArg Addr.block h; simpa using this.symm))).trans hp
  have hg1 : w.grownBy (w.setCell ⟨b, 1, none⟩ (.int .i32 1)) (some b) := gb_setCell (gb_refl _ _) (Or.inl rfl) _
  have hc0 := hT1.c0
  have hnot : ∀ (x : Bool) (w : World), (Op.unary .not (.bool x)).run Try.prog w = .ok (.bool (!x)) w := fun _ _ => rfl
  have HT1 := Lib.hid hT1
  have HG1 := Lib.hid hg1
  clear hT hT1 hg1
  go_enter_defers Try.func17, Try.ntmps17
  go_wp2_with fail
  refine (lock_free ⟨b, 1, none⟩ _ hc1 hf1).mono ?_
  rintro e w' ⟨rfl, rfl⟩
  go_wp2_with fail
  refine (load_is b 0 false rfl _ hc0).mono ?_
  rintro e w' ⟨rfl, rfl⟩
  go_wp2_with fail
  refine (fill_any p b hpb _ HT1.out hp1).mono ?_
  rintro e w2 ⟨rfl, hT2, hg2⟩
  have hg2 := gb_trans HG1.out hg2
  go_wp2_with fail
  have hT3 := Tab.set0 (w := w2.drew) (Blk.drew hT2) 1
  have hc3 := hT2.c0
  have hf3 := hT2.fr 0
  have hc4 := hT3.c1
  have hf4 := hT3.fr 1
  have hT5 := hT3.set1 0
  have hg3 : w.grownBy _ (some b) := gb_setCell (gb_setCell (gb_drew hg2) (p := ⟨b, 0, none⟩) (Or.inl rfl) (.int .u32 1)) (p := ⟨b, 1, none⟩) (Or.inl rfl) (.int .i32 0)
  refine leaves_cons (f := 21) (args := #[.pointer (some ⟨b, 0, none⟩), .bool true]) (by simp) (by simp [go_sem]) ?_
  refine (store_deferred ⟨b, 0, none⟩ _ .returning _ hc3 hf3).mono ?_
  rintro e u' w'' ⟨rfl, rfl, rfl⟩
  refine leaves_cons (f := 20) (args := #[.pointer (some ⟨b, 1, none⟩)]) (by simp [settle]) (by simp [go_sem]) ?_
  refine (unlock_deferred ⟨b, 1, none⟩ _ _ hc4 hf4).mono ?_
  rintro e u' w'' ⟨rfl, rfl, rfl⟩
  simp [Leaves, settle, results, Try.results17]
  exact ⟨hT5, hg3⟩

set_option maxHeartbeats 400000 in
theorem do_first (p b : Nat) (hpb : p ≠ b) (w : World) (hT : Tab w b 0 0 0) (hp : w.cell? ⟨p, 0, none⟩ = some (.pointer (some ⟨b, 0, none⟩))) :
    Calls Try.prog 14 #[.pointer (some ⟨b, 0, none⟩), .func (.func 15) #[] #[.pointer (some ⟨p, 0, none⟩)]] w fun e w' => e = .returned (.tuple #[]) ∧ Tab w' b 1 0 256 ∧ w.grownBy w' (some b) := by
  have hnot : ∀ (x : Bool) (w : World), (Op.unary .not (.bool x)).run Try.prog w = .ok (.bool (!x)) w := fun _ _ => rfl
  go_enter Try.func14, Try.ntmps14
  go_wp2_with fail
  refine (load_is b 0 false rfl _ hT.c0).mono ?_
  rintro e w' ⟨rfl, rfl⟩
  go_wp2_with fail
  refine (slow_any p b hpb _ hT hp).mono ?_
  rintro e w2 ⟨rfl, hT2, hg2⟩
  go_wp2_with fail
  go_end0
  exact ⟨rfl, hT2, hg2⟩

set_option maxHeartbeats 400000 in
theorem do_done (f : Value) (b : Nat) (w : World) (hT : Tab w b 1 0 256) :
    Calls Try.prog 14 #[.pointer (some ⟨b, 0, none⟩), f] w fun e w' => e = .returned (.tuple #[]) ∧ w = w' := by
  have hnot : ∀ (x : Bool) (w : World), (Op.unary .not (.bool x)).run Try.prog w = .ok (.bool (!x)) w := fun _ _ => rfl
  go_enter Try.func14, Try.ntmps14
  go_wp2_with fail
  refine (load_is b 1 true rfl _ hT.c0).mono ?_
  rintro e w' ⟨rfl, rfl⟩
  go_wp2_with fail
  go_end0
  exact ⟨rfl, rfl⟩

/-- made or not yet made -/
def Made (w : World) (b : Nat) : Prop := Tab w b 0 0 0 ∨ Tab w b 1 0 256

set_option maxHeartbeats 400000 in
theorem step_any (b n : Nat) (hn : n < 256) (w : World) (hT : Made w b) :
    Calls Try.prog 13 #[.pointer (some ⟨b, 0, none⟩), .int .u8 n] w fun e w' => e = .returned (.int .u32 ((step8 n : Nat) : Int)) ∧ Made w' b ∧ w.grownBy w' (some b) := by
  have hmf : ∀ (fn : Fn) (first cap : Array Value) (w : World), (Instr.makeFunc fn first cap).run Try.prog w = .ok (.func fn first cap) w := fun _ _ _ _ => rfl
  have hbl : b < w.heap.size := by rcases hT with h | h <;> exact h.lt
  have hp : (w.alloc (.cells #[.pointer (some ⟨b, 0, none⟩)] 30)).cell? ⟨w.heap.size, 0, none⟩ = some (.pointer (some ⟨b, 0, none⟩)) := by simp
  have hg1 : w.grownBy (w.alloc (.cells #[.pointer (some ⟨b, 0, none⟩)] 30)) (some b) := gb_alloc (gb_refl _ _) _
  generalize hnew : w.alloc (.cells #[.pointer (some ⟨b, 0, none⟩)] 30) = w1 at *
  have key : Calls Try.prog 14 #[.pointer (some ⟨b, 0, none⟩), .func (.func 15) #[] #[.pointer (some ⟨w.heap.size, 0, none⟩)]] w1 fun e w' => e = .returned (.tuple #[]) ∧ Tab w' b 1 0 256 ∧ w1.grownBy w' (some b) := by
    subst hnew
    rcases hT with h | h
    · exact do_first w.heap.size b (by omega) _ (Blk.alloc h _) hp
    · refine (do_done _ b _ (Blk.alloc h _)).mono ?_
      rintro e w2 ⟨rfl, rfl⟩
      exact ⟨rfl, Blk.alloc h _, gb_refl _ _⟩
  have HG1 := Lib.hid hg1
  clear hg1 hT
  go_enter Try.func13, Try.ntmps13
  go_wp2_with fail
  refine key.mono ?_
  rintro e w2 ⟨rfl, hT2, hg2⟩
  have hp2 := hg2.cell hp (by simp; omega)
  have hs2 := hT2.step hn
  go_wp2_with fail
  go_ret
  exact ⟨rfl, Or.inr hT2, gb_trans HG1.out hg2⟩
end Go.Proofs.Ytanplhmnmicdaaa
