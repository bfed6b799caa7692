/- Operations as plain values; mk; the closure of grown and its IndexFunc. -/
import Derived.Test.YthaekoeekpofpaaK
namespace Go.Proofs.Ythaekoeekpofpaa
open Go.RowKit
attribute [local go_sem] bs_size bs_getElem bs_list bs_append

structure TOp where
  st : St
  seq : Int
  kind : Int
  node : St
  dir : Bool
  par : St
  nm : List UInt8
  mf : List UInt8
deriving DecidableEq
instance : Inhabited TOp := ⟨⟨(0, 0), 0, 0, (0, 0), false, (0, 0), [], []⟩⟩
def oc (x : TOp) : List Value := [.int .i64 x.st.1, .int .i64 x.st.2, .int .i64 x.seq, .int .i64 x.kind, .int .i64 x.node.1, .int .i64 x.node.2, .bool x.dir, .int .i64 x.par.1, .int .i64 x.par.2, .string (bs x.nm), .string (bs x.mf)]
def ov (x : TOp) : Value := .agg #[.int .i64 x.st.1, .int .i64 x.st.2, .int .i64 x.seq, .int .i64 x.kind, .int .i64 x.node.1, .int .i64 x.node.2, .bool x.dir, .int .i64 x.par.1, .int .i64 x.par.2, .string (bs x.nm), .string (bs x.mf)]

set_option maxRecDepth 100000 in
theorem mk_op (a p : Int) (w : World) : Calls Try.prog 28 #[.int .i64 a, .int .i64 p] w fun e w' => e = .returned (ov ⟨(a, 0), 0, 1, (a, 0), true, (p, 0), [110], []⟩) ∧ Below w.heap.size w w' := by
  have HB := Lib.hid ((Below.refl w.heap.size w).alloc (Nat.le_refl _) (.cells #[.int .i64 a, .int .i64 0, .int .i64 0, .int .i64 1, .int .i64 a, .int .i64 0, .bool true, .int .i64 p, .int .i64 0, .string ⟨#[110]⟩, .string ⟨#[]⟩] 32))
  go_enter Try.func28, Try.ntmps28
  go_wp2_with fail
  exact bodyPost_ret (v := ov ⟨(a, 0), 0, 1, (a, 0), true, (p, 0), [110], []⟩) (by simp [results, Try.results28, go_sem, ov, bs]) rfl ⟨rfl, HB.out⟩

set_option maxRecDepth 100000 in
set_option maxHeartbeats 1600000 in
/-- the closure of grown: stands x behind the node that lies in block q? -/
theorem clo_less (q : Nat) (y x : Nd) (w : World) (hq : Blk w q 37 (nc y).toArray) :
    Calls Try.prog 44 #[nv x, .pointer (some ⟨q, 0, none⟩)] w fun e w' => e = .returned (.bool (lessS y.id x.id)) ∧ Below w.heap.size w w' := by
  have hb : Below w.heap.size w (w.alloc (.cells (nc x).toArray 37)) := (Below.refl _ w).alloc (Nat.le_refl _) _
  have hq1 := hq.alloc (.cells (nc x).toArray 37)
  have hB := Blk.new w 37 (nc x).toArray
  obtain ⟨c0, c1, _⟩ := blk7 hq1
  obtain ⟨e0, e1, _⟩ := blk7 hB
  have hl := less_any y.id x.id (w.alloc (.cells (nc x).toArray 37))
  unfold sv nc at hl
  unfold nc at c0 c1 e0 e1 hb
  have HL := Lib.hid hl
  have HB := Lib.hid hb
  clear hb hB hq hq1 hl
  unfold nv
  go_enter Try.func44, Try.ntmps44
  go_wp2_with fail
  refine HL.out.mono ?_
  rintro e w2 ⟨rfl, hb2⟩
  have hb3 := HB.out.trans (hb2.mono HB.out.size)
  go_wp2_with fail
  go_ret
  exact ⟨rfl, hb3⟩
end Go.Proofs.Ythaekoeekpofpaa
