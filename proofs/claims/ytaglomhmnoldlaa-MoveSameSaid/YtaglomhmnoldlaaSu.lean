/- undo: an operation is taken back. -/
import Derived.Test.YtaglomhmnoldlaaSd
namespace Go.Proofs.Ytaglomhmnoldlaa
open Go.RowKit
attribute [local go_sem] bs_size bs_getElem bs_list bs_append

/-- the nodes behind an operation that is taken back -/
def undoE (es : List Nd) (d : Rec) : List Nd := if d.made then (if d.had then putN es d.was else delN es d.op.node) else es

set_option maxRecDepth 100000 in
set_option maxHeartbeats 3200000 in
theorem undo_st (d : Rec) (g o p m : Nat) (v : Value) (r : Int) (es : List Nd) (w : World) (hd : RecAt w g o d) (hid : d.had = true → d.was.id = d.op.node) (h : Stt w p m v r es) :
    Calls Try.prog 27 #[.pointer (some ⟨p, 0, none⟩), .pointer (some ⟨g, o, none⟩)] w fun e w' => e = .returned (.tuple #[]) ∧ Stt w' p m v r (undoE es d) ∧ w.grownBy w' (some m) := by
  obtain ⟨x, y, had, made⟩ := d
  have c1 := h.c1
  obtain ⟨o0, o1, o2, o3, o4, o5, o6, o7, o8, o9, o10⟩ := hd.op_
  obtain ⟨a0, a1, a2, a3, a4, a5, a6⟩ := hd.was_
  obtain ⟨hh, hmd⟩ := hd.had_
  have hpm : p ≠ m := fun e => h.map.ne_blk h.blk e.symm
  have HS := Lib.hid h
  have HI := Lib.hid hid
  unfold undoE
  simp only at *
  cases made with
  | false =>
    clear hid h hd o0 o1 o2 o3 o6 o7 o8 o9 o10
    go_enter Try.func27, Try.ntmps27
    go_wp2_with fail
    go_end0
    exact ⟨rfl, HS.out, gb_refl _ _⟩
  | true =>
    cases had with
    | true =>
      obtain ⟨w5, hrun, hm5, hg5, _⟩ := (h.map.below (w' := w.drew) (Below.refl _ w).drew).put y
      have HP := Lib.hid (show Stt w5 p m v r (putN es y) from ⟨(h.below (w' := w.drew) (Below.refl _ w).drew).blk.grown hg5 (fun e => hpm (Option.some.inj e)), hm5⟩)
      have HG := Lib.hid (show w.grownBy w5 (some m) from gb_trans (gb_drew (gb_refl w _)) hg5)
      rw [HI.out rfl] at hrun
      unfold sv nv at hrun
      clear hid h hd hm5 hg5 o0 o1 o2 o3 o6 o7 o8 o9 o10
      go_enter Try.func27, Try.ntmps27
      go_upto_region 1 with (fail)
      go_region
      all_goals
        go_wp2_with fail
        go_end0
        exact ⟨rfl, HP.out, HG.out⟩
    | false =>
      have hdel := fun ty => (h.map.below (w' := w.drew) (Below.refl _ w).drew).del x.node ty
      obtain ⟨w5, hrun, hm5, hg5, _⟩ := hdel 0
      have HP := Lib.hid (show Stt w5 p m v r (delN es x.node) from ⟨(h.below (w' := w.drew) (Below.refl _ w).drew).blk.grown hg5 (fun e => hpm (Option.some.inj e)), hm5⟩)
      have HG := Lib.hid (show w.grownBy w5 (some m) from gb_trans (gb_drew (gb_refl w _)) hg5)
      unfold sv at hrun
      clear hid h hd hm5 hg5 o0 o1 o2 o3 o6 o7 o8 o9 o10 hdel
      go_enter Try.func27, Try.ntmps27
      go_upto_region 3 with (fail)
      go_region
      all_goals
        go_wp2_with fail
        go_end0
        exact ⟨rfl, HP.out, HG.out⟩
end Go.Proofs.Ytaglomhmnoldlaa
