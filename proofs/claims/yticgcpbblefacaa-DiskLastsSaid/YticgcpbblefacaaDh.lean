/- The chapter's example; a nil disk. -/
import Derived.Test.YticgcpbblefacaaDg
namespace Go.Proofs.Yticgcpbblefacaa
open Go.RowKit
attribute [local go_sem] bs_size bs_getElem bs_list bs_append

/-- a write onto a disk that is not armed -/
def wrote (st : DS) (a : Wr) : DS := { st with acts := st.acts ++ [a], now := doneL st.now a false }
theorem writeSt_calm {st : DS} (hd : st.dead = false) (ha : st.armed = 0) (a : Wr) : writeSt st a = wrote st a := by
  obtain ⟨l, n, f, ac, ar, de⟩ := st
  simp only at hd ha
  subst hd ha
  rfl
theorem write_ok {B d nb fb : Nat} {v : Value} {st : DS} {w : World} (a : Wr) (h : Dsk B w d nb fb v st) (hdead : st.dead = false) (ha : st.armed = 0) (h1 : 1 ≤ a.name.length) (h2 : a.name.length ≤ 24) (hl : a.at_ ≤ st.limit) (hlim : st.limit ≤ 16777216)
    (hn : st.acts.length ≤ 1000) (hs : Short 100000000 st.now) (hd : a.data.length ≤ 100000000) (hk : a.at_ ≤ 8192) (hroom : tot st.now + (a.at_ + a.data.length) ≤ st.limit) :
    Calls Try.prog 10 #[.pointer (some ⟨d, 0, none⟩), .string (bs a.name), .int .i64 (a.at_ : Nat), .string (bs a.data)] w fun e w' => ∃ v', e = .returned (.int .i64 0) ∧ Dsk B w' d nb fb v' (wrote st a) ∧ Below B w w' := by
  have := write_any a h hdead h1 h2 hl hlim hn (by rw [ha]; decide) hs hd hk hroom
  rw [writeSt_calm hdead ha] at this
  have hdw : (wrote st a).dead = false := hdead
  rw [hdw] at this
  exact this

def fileA : Bytes := [97]
def ex1 : DS := wrote ⟨20, [], [], [], 0, false⟩ ⟨fileA, 0, [97, 98, 99]⟩
def ex2 : DS := { ex1 with firm := ex1.now, acts := [] }
def ex3 : DS := wrote ex2 ⟨fileA, 3, [100, 101]⟩
def ex4 : DS := wrote ex3 ⟨fileA, 5, [102, 103]⟩
theorem short_of {fs : Files} (h : (fs.all fun e => decide (e.2.length ≤ 100000000)) = true) : Short 100000000 fs := by
  intro e he
  have := List.all_eq_true.1 h e he
  simpa using this
theorem ex_end : get (runN ex4.firm false (kept (kbit 2) 0 ex4.acts) (kept (kbit 2) 0 ex4.acts).length) fileA = some [97, 98, 99, 0, 0, 102, 103] := by kernel_rfl

set_option maxHeartbeats 4000000 in
set_option maxRecDepth 100000 in
theorem awake_any (w : World) : Calls Try.prog 8 #[] w fun e w' => e = .returned (.bool true) ∧ Below w.heap.size w w' := by
  go_enter Try.func8, Try.ntmps8
  go_wp2_with fail
  refine (new_any 20 (by decide) (by decide) w).mono ?_
  rintro e w1 ⟨d, nb, fb, rfl, h1, hb1⟩
  have H1 := Lib.hid h1
  have HB1 := Lib.hid hb1
  clear h1 hb1
  go_wp2_with fail
  refine (write_ok (st := ⟨20, [], [], [], 0, false⟩) ⟨fileA, 0, [97, 98, 99]⟩ H1.out rfl rfl (by decide) (by decide) (by decide) (by decide) (by decide) (short_of (by decide)) (by decide) (by decide) (by decide)).mono ?_
  rintro e w2 ⟨v2, rfl, h2, hb2⟩
  have H2 : Hid (Dsk w.heap.size w2 d nb fb v2 ex1) := Lib.hid h2
  have HB2 := Lib.hid (HB1.out.trans hb2)
  clear h2 hb2
  go_wp2_with fail
  refine (sync_any H2.out (by decide) (by decide)).mono ?_
  rintro e w3 ⟨fb3, rfl, h3, hb3⟩
  have H3 : Hid (Dsk w.heap.size w3 d nb fb3 (.slice none 0 0) ex2) := Lib.hid h3
  have HB3 := Lib.hid (HB2.out.trans hb3)
  clear h3 hb3
  go_wp2_with fail
  refine (write_ok (st := ex2) ⟨fileA, 3, [100, 101]⟩ H3.out rfl rfl (by decide) (by decide) (by decide) (by decide) (by decide) (short_of (by decide)) (by decide) (by decide) (by decide)).mono ?_
  rintro e w4 ⟨v4, rfl, h4, hb4⟩
  have H4 : Hid (Dsk w.heap.size w4 d nb fb3 v4 ex3) := Lib.hid h4
  have HB4 := Lib.hid (HB3.out.trans hb4)
  clear h4 hb4
  go_wp2_with fail
  refine (write_ok (st := ex3) ⟨fileA, 5, [102, 103]⟩ H4.out rfl rfl (by decide) (by decide) (by decide) (by decide) (by decide) (short_of (by decide)) (by decide) (by decide) (by decide)).mono ?_
  rintro e w5 ⟨v5, rfl, h5, hb5⟩
  have H5 : Hid (Dsk w.heap.size w5 d nb fb3 v5 ex4) := Lib.hid h5
  have HB5 := Lib.hid (HB4.out.trans hb5)
  clear h5 hb5
  go_wp2_with fail
  refine (crash_any H5.out 2 false (by decide) (short_of (by decide)) (by decide)).mono ?_
  rintro e w6 ⟨nb6, fs, rfl, hfs, h6, hb6⟩
  have hg : get fs fileA = some [97, 98, 99, 0, 0, 102, 103] := by rw [hfs]; exact ex_end
  have hrd := read_any h6 rfl fileA (by decide) (by decide)
  simp only [hg, Option.getD_some, Option.isSome_some, if_true] at hrd
  have HRD := Lib.hid hrd
  have HB6 := Lib.hid (HB5.out.trans hb6)
  clear hrd h6 hb6 hfs hg
  go_wp2_with fail
  refine HRD.out.mono ?_
  rintro e w7 ⟨rfl, rfl⟩
  go_wp2_with fail
  go_ret
  exact ⟨rfl, HB6.out⟩
end Go.Proofs.Yticgcpbblefacaa
