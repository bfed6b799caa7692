/- The chapter's example. -/
import Derived.Test.YtaglomhmnoldlaaAw
namespace Go.Proofs.Ytaglomhmnoldlaa
open Go.RowKit
attribute [local go_sem] bs_size bs_getElem bs_list bs_append

def exA : TOp := ⟨(1, 0), 0, 1, (1, 0), true, (0, 0), [97], []⟩
def exB : TOp := ⟨(2, 0), 0, 1, (2, 0), false, (0, 0), [98], []⟩
def exC : TOp := ⟨(3, 0), 0, 2, (2, 0), false, (1, 0), [98], []⟩
theorem ex1 : codeO [] exC = 0 ∧ insO [] exC = [exC] := by decide
theorem ex2 : codeO [exC] exA = 0 ∧ insO [exC] exA = [exA, exC] := by decide
theorem ex3 : codeO [exA, exC] exB = 0 ∧ insO [exA, exC] exB = [exA, exB, exC] ∧ ∀ r, redO r [exA, exC] exB = 1 := ⟨by decide, by decide, fun r => by unfold redO; rw [if_pos (by decide)]; decide⟩
def exNds : List Nd := [⟨(1, 0), true, (0, 0), [97], []⟩, ⟨(2, 0), false, (1, 0), [98], []⟩]
theorem ex4 : foldN [exA, exB, exC] = exNds := by decide

set_option maxRecDepth 100000 in
set_option maxHeartbeats 1600000 in
theorem awake_any (w : World) : Calls Try.prog 9 #[] w fun e w' => e = .returned (.bool true) ∧ Below w.heap.size w w' := by
  obtain ⟨w1, hw1⟩ : ∃ w1, w1 = (w.alloc (.cells #[.int .i64 1, .int .i64 0] 27)).alloc (.cells #[.int .i64 2, .int .i64 0] 27) := ⟨_, rfl⟩
  have hb1 : Below w.heap.size w w1 := by rw [hw1]; exact ((Below.refl _ w).alloc (Nat.le_refl _) _).alloc (by simp) _
  have hA : Blk w1 w.heap.size 27 #[.int .i64 1, .int .i64 0] := by rw [hw1]; exact (Blk.new w 27 _).alloc _
  have hB : Blk w1 (w.heap.size + 1) 27 #[.int .i64 2, .int .i64 0] := by
    rw [hw1]
    have := Blk.new (w.alloc (.cells #[.int .i64 1, .int .i64 0] 27)) 27 #[.int .i64 2, .int .i64 0]
    simpa using this
  have hlt : w.heap.size + 1 < w1.heap.size := hB.lt
  have HW := Lib.hid hw1
  have HB1 := Lib.hid hb1
  have HA := Lib.hid hA
  have HBb := Lib.hid hB
  have HLt := Lib.hid hlt
  have HN := Lib.hid (new_live w1)
  clear hw1 hb1 hlt hA hB
  have hcells : RowKit.Hid (∀ w' : World, Below w1.heap.size w1 w' → w'.cell? ⟨w.heap.size, 0, none⟩ = some (.int .i64 1) ∧ w'.cell? ⟨w.heap.size, 1, none⟩ = some (.int .i64 0) ∧ w'.cell? ⟨w.heap.size + 1, 0, none⟩ = some (.int .i64 2) ∧ w'.cell? ⟨w.heap.size + 1, 1, none⟩ = some (.int .i64 0)) := Lib.hid (fun w' hb => by
    have h1 := HA.out.below hb (by have := HLt.out; omega)
    have h2 := HBb.out.below hb HLt.out
    exact ⟨by rw [h1.cell]; rfl, by rw [h1.cell]; rfl, by rw [h2.cell]; rfl, by rw [h2.cell]; rfl⟩)
  go_enter Try.func9, Try.ntmps9
  go_wp2_with fail
  rw [← HW.out]
  refine HN.out.mono ?_
  rintro e w2 ⟨rfl, hl2⟩
  have HL2 := Lib.hid hl2
  obtain ⟨a0, a1, b0, b1⟩ := hcells.out w2 hl2.below
  clear hl2 HN
  generalize hp : w1.heap.size + 1 = p at *
  have HP := Lib.hid hp
  clear hp
  go_wp2_with fail
  refine (insert_live exC ⟨by decide, by decide⟩ _ _ _ _ _ _ _ HL2.out).mono ?_
  rintro e w3 ⟨v3, rfl, hl3, _, _⟩
  rw [ex1.2] at hl3
  have HL3 := Lib.hid hl3
  clear hl3 a0 a1 b0 b1
  obtain ⟨a0, a1, b0, b1⟩ := hcells.out w3 HL3.out.below
  go_wp2_with fail
  refine (insert_live exA ⟨by decide, by decide⟩ _ _ _ _ _ _ _ HL3.out).mono ?_
  rintro e w4 ⟨v4, rfl, hl4, _, _⟩
  rw [ex2.2] at hl4
  have HL4 := Lib.hid hl4
  clear hl4 a0 a1 b0 b1
  obtain ⟨a0, a1, b0, b1⟩ := hcells.out w4 HL4.out.below
  go_wp2_with fail
  refine (insert_live exB ⟨by decide, by decide⟩ _ _ _ _ _ _ _ HL4.out).mono ?_
  rintro e w5 ⟨v5, rfl, hl5, _, _⟩
  rw [ex3.2.1, ex3.2.2] at hl5
  have HL5 := Lib.hid hl5
  clear hl5 a0 a1 b0 b1
  rw [ex3.1]
  have HNd := Lib.hid (nodes_live HL5.out)
  rw [ex4] at HNd
  go_wp2_with fail
  refine HNd.out.mono ?_
  rintro e w6 ⟨A6, c6, rfl, hn6, hb6⟩
  have HL6 := Lib.hid (HL5.out.then_ hb6)
  obtain ⟨a0, a1, b0, b1⟩ := hcells.out w6 HL6.out.below
  obtain ⟨b6, o6, rfl, _, _, _, _, p3, p4, _⟩ := hn6.at_ (k := 1) (by decide)
  have hmx := hn6.max
  have hle := hn6.le
  have HR := Lib.hid (fun w' h => redone_live (HL6.out.then_ (w' := w') h))
  have HB6 := Lib.hid (HB1.out.trans (HL6.out.below.mono HB1.out.size))
  clear HNd hn6 hb6
  have e1 : (exNds[1]'(by decide)).par = (1, 0) := rfl
  rw [e1] at p3 p4
  have hex : exNds.length = 2 := rfl
  rw [hex] at hle ⊢
  have k0 := fun u : After w6 => u.cell a0
  have k1 := fun u : After w6 => u.cell a1
  have k2 := fun u : After w6 => u.cell p3
  have k3 := fun u : After w6 => u.cell p4
  clear e1 hex
  go_upto_region 10 with (fail)
  refine wp_region_after (by kernel_rfl) (by kernel_rfl) ?_
  repeat (go_big_quiet_step ((go_at_call 11; exact after_same (HR.out _ (After.below _)))))
  refine wpQuiet_nil ?_
  rintro _ ⟨u, rfl⟩
  go_wp2_with fail
  go_ret
  exact ⟨rfl, HB6.out.trans (u.below.mono HB6.out.size)⟩
end Go.Proofs.Ytaglomhmnoldlaa
