/- A write; a read. -/
import Derived.Test.YticgcpbblefacaaDd
namespace Go.Proofs.Yticgcpbblefacaa
open Go.RowKit
attribute [local go_sem] bs_size bs_getElem bs_list bs_append

theorem get_le_tot : ∀ (fs : Files) (k : Bytes), ((get fs k).getD []).length ≤ tot fs
  | [], _ => Nat.zero_le _
  | e :: r, k => by
    by_cases c : e.1 = k
    · simp [get, place, c, tot]
    · have ih := get_le_tot r k
      simp only [get, place, if_neg c, tot, List.map_cons, List.sum_cons] at ih ⊢
      simp only [Option.map_map, Function.comp_def]
      omega
set_option maxHeartbeats 2000000 in
theorem write_fr {B d nb fb : Nat} {v : Value} {st : DS} {w : World} (a : Wr) (h : Dsk B w d nb fb v st) (hdead : st.dead = false) (h1 : 1 ≤ a.name.length) (h2 : a.name.length ≤ 24) (hl : a.at_ ≤ st.limit) (hlim : st.limit ≤ 16777216)
    (hn : st.acts.length ≤ 1000) (ha : st.armed ≤ 9223372036854775807) (hs : Short 100000000 st.now) (hd : a.data.length ≤ 100000000) (hk : a.at_ ≤ 8192) (hroom : tot st.now + (a.at_ + a.data.length) ≤ st.limit) :
    Calls Try.prog 10 #[.pointer (some ⟨d, 0, none⟩), .string (bs a.name), .int .i64 (a.at_ : Nat), .string (bs a.data)] w fun e w' => ∃ v', e = .returned (.int .i64 (if (writeSt st a).dead then 42 else 0)) ∧ Dsk B w' d nb fb v' (writeSt st a) ∧ Below B w w' ∧ Fr w w' := by
  suffices main : ∀ st', writeSt st a = st' → ∀ code : Int, code = (if st'.dead then 42 else 0) → Calls Try.prog 10 #[.pointer (some ⟨d, 0, none⟩), .string (bs a.name), .int .i64 (a.at_ : Nat), .string (bs a.data)] w fun e w' => ∃ v', e = .returned (.int .i64 code) ∧ Dsk B w' d nb fb v' st' ∧ Below B w w' ∧ Fr w w' from main _ rfl _ rfl
  intro st' hst' code hcode
  have HST := Lib.hid hst'
  have HCODE := Lib.hid hcode
  clear hst' hcode
  have hB : B ≤ w.heap.size := Nat.le_of_lt (Nat.lt_of_le_of_lt h.bd h.blk.lt)
  have hmf : ∀ (fn : Fn) (first cap : Array Value) (w : World), (Instr.makeFunc fn first cap).run Try.prog w = .ok (.func fn first cap) w := fun _ _ _ _ => rfl
  obtain ⟨w1, hw1⟩ : ∃ w1, w1 = ((w.alloc (.cells #[.string (bs a.name)] 9)).alloc (.cells #[.int .i64 (a.at_ : Nat)] 3)).alloc (.cells #[.string (bs a.data)] 9) := ⟨_, rfl⟩
  have hb1 : Below w.heap.size w w1 := by rw [hw1]; exact (((Below.refl _ w).alloc (Nat.le_refl _) _).alloc (by simp) _).alloc (by simp; omega) _
  have g0 : Blk w1 w.heap.size 9 #[.string (bs a.name)] := by rw [hw1]; exact ((Blk.new w 9 _).alloc _).alloc _
  have g1 : Blk w1 (w.heap.size + 1) 3 #[.int .i64 (a.at_ : Nat)] := by
    have := (Blk.new (w.alloc (.cells #[.string (bs a.name)] 9)) 3 #[.int .i64 (a.at_ : Nat)]).alloc (.cells #[.string (bs a.data)] 9)
    rw [hw1]; simpa using this
  have g2 : Blk w1 (w.heap.size + 1 + 1) 9 #[.string (bs a.data)] := by
    have := Blk.new ((w.alloc (.cells #[.string (bs a.name)] 9)).alloc (.cells #[.int .i64 (a.at_ : Nat)] 3)) 9 #[.string (bs a.data)]
    rw [hw1]; simpa using this
  have hh := h.later hb1
  have q0 := g0.cell 0
  have q1 := g1.cell 0
  have q2 := g2.cell 0
  simp at q0 q1 q2
  obtain ⟨had, hhad⟩ : ∃ had, had = (get st.now a.name).getD [] := ⟨_, rfl⟩
  have hle : had.length ≤ 100000000 := by rw [hhad]; exact hs.get _
  have hlk : ∀ x : After w1, (Instr.lookup 47 (.map (some nb)) (.string (bs a.name)) false).run Try.prog x.wd = .ok (.string (bs had)) x.wd := by
    rw [hhad]
    exact fun x => (hh.now.below x.below).look Try.underlying47 Try.underlying9 zero9 a.name
  have k0 : ∀ x : After w1, x.wd.cell? ⟨w.heap.size, 0, none⟩ = some (.string (bs a.name)) := fun x => x.cell q0
  have k1 : ∀ x : After w1, x.wd.cell? ⟨w.heap.size + 1, 0, none⟩ = some (.int .i64 (a.at_ : Nat)) := fun x => x.cell q1
  have k2 : ∀ x : After w1, x.wd.cell? ⟨w.heap.size + 1 + 1, 0, none⟩ = some (.string (bs a.data)) := fun x => x.cell q2
  have kd0 : ∀ x : After w1, x.wd.cell? ⟨d, 0, none⟩ = some (.int .i64 (st.limit : Nat)) := fun x => x.cell (hh.blk.cell 0)
  have kd1 : ∀ x : After w1, x.wd.cell? ⟨d, 1, none⟩ = some (.map (some nb)) := fun x => x.cell (hh.blk.cell 1)
  have hHAD := Lib.hid hhad
  clear hhad
  have hwr := wrong_ok hh hdead a.name a.at_ h1 h2 hl
  have HWR := Lib.hid hwr
  have HW := Lib.hid hw1
  have HH := Lib.hid hh
  have HB1 := Lib.hid hb1
  have HS := Lib.hid hs
  have G0 := Lib.hid g0
  have G1 := Lib.hid g1
  have G2 := Lib.hid g2
  clear hwr hw1 hh hb1 h g0 g1 g2 hs hdead
  go_enter Try.func10, Try.ntmps10
  go_wp2_with fail
  rw [← HW.out]
  refine HWR.out.mono ?_
  rintro e w' ⟨rfl, rfl⟩
  go_wp2_with fail
  refine wp_region_after (by kernel_rfl) (by kernel_rfl) ?_
  repeat (go_big_quiet_step ((fail)))
  refine wpQuiet_nil ?_
  rintro _ ⟨x, rfl⟩
  go_wp2_with fail
  have hHT : had.length ≤ tot st.now := by rw [hHAD.out]; exact get_le_tot _ _
  obtain ⟨T, hT⟩ : ∃ T, T = tot st.now := ⟨_, rfl⟩
  obtain ⟨M, hM⟩ : ∃ M : Nat, M = max had.length (a.at_ + a.data.length) := ⟨_, rfl⟩
  have x1 : max (had.length : Int) ((a.at_ : Int) + (a.data.length : Int)) = ((M : Nat) : Int) := by omega
  obtain ⟨X, hX⟩ : ∃ X : Nat, X = T - had.length := ⟨_, rfl⟩
  obtain ⟨Y, hY⟩ : ∃ Y : Nat, Y = st.limit - M := ⟨_, rfl⟩
  rw [← hT] at hHT hroom
  have x2 : (T : Int) - (had.length : Int) = (X : Int) := by omega
  have x3 : (st.limit : Int) - (M : Int) = (Y : Int) := by omega
  have x4 : decide (Y < X) = false := by simp; omega
  have x5 : X ≤ 16777216 := by omega
  have x6 : Y ≤ 16777216 := by omega
  obtain ⟨w2, hw2⟩ : ∃ w2, w2 = x.wd := ⟨_, rfl⟩
  have k1 : ∀ y : After w2, y.wd.cell? ⟨w.heap.size + 1, 0, none⟩ = some (.int .i64 (a.at_ : Nat)) := fun y => y.cell (by rw [hw2]; exact k1 x)
  have k2 : ∀ y : After w2, y.wd.cell? ⟨w.heap.size + 1 + 1, 0, none⟩ = some (.string (bs a.data)) := fun y => y.cell (by rw [hw2]; exact k2 x)
  have kd0 : ∀ y : After w2, y.wd.cell? ⟨d, 0, none⟩ = some (.int .i64 (st.limit : Nat)) := fun y => y.cell (by rw [hw2]; exact kd0 x)
  have h2' : Dsk B w2 d nb fb v st := by rw [hw2]; exact HH.out.later x.below
  have hsz : ∀ y : After w2, Calls Try.prog 16 #[.pointer (some ⟨d, 0, none⟩)] y.wd fun e w' => e = .returned (.int .i64 (T : Nat)) ∧ Below y.wd.heap.size y.wd w' := by
    intro y
    have hy := h2'.later y.below
    rw [hT]
    exact size_any d nb _ st.now y.wd hy.blk rfl hy.now (by omega)
  have HSZ := Lib.hid hsz
  have G0 : Hid (Blk w2 w.heap.size 9 #[.string (bs a.name)]) := Lib.hid (by rw [hw2]; exact G0.out.below x.below G0.out.lt)
  have G1 : Hid (Blk w2 (w.heap.size + 1) 3 #[.int .i64 (a.at_ : Nat)]) := Lib.hid (by rw [hw2]; exact G1.out.below x.below G1.out.lt)
  have G2 : Hid (Blk w2 (w.heap.size + 1 + 1) 9 #[.string (bs a.data)]) := Lib.hid (by rw [hw2]; exact G2.out.below x.below G2.out.lt)
  have HB1 : Hid (Below w.heap.size w w2) := Lib.hid (by rw [hw2]; exact HB1.out.trans (x.below.mono HB1.out.size))
  have H2 := Lib.hid h2'
  rw [← hw2]
  clear hw2 h2' hsz hX hY hM hT hHT hroom hlk HH hHAD hle q0 q1 q2 h1 h2 hl
  refine wp_region_after (by kernel_rfl) (by kernel_rfl) ?_
  repeat (go_big_quiet_step ((go_at_call 16; exact after_call (HSZ.out _))))
  refine wpQuiet_nil ?_
  rintro _ ⟨y, rfl⟩
  go_wp2_with fail
  have hy := H2.out.later y.below
  have hdo := does_fr hy (a := a) ⟨_, _, _, rfl, G2.out.below y.below G2.out.lt, G0.out.below y.below G0.out.lt, G1.out.below y.below G1.out.lt⟩ hn ha HS.out hd hk
  rw [HST.out, ← HCODE.out] at hdo
  refine hdo.mono ?_
  rintro e w3 ⟨v', rfl, h3, hb3, hf3⟩
  have H3 := Lib.hid h3
  have HB3 := Lib.hid (((HB1.out.trans (y.below.mono HB1.out.size)).mono hB).trans hb3)
  have HF3 := Lib.hid ((Fr.below (HB1.out.trans (y.below.mono HB1.out.size))).trans hf3)
  clear hdo h3 hb3 hy hf3
  go_wp2_with fail
  go_ret
  exact ⟨v', rfl, H3.out, HB3.out, HF3.out⟩

theorem write_any {B d nb fb : Nat} {v : Value} {st : DS} {w : World} (a : Wr) (h : Dsk B w d nb fb v st) (hdead : st.dead = false) (h1 : 1 ≤ a.name.length) (h2 : a.name.length ≤ 24) (hl : a.at_ ≤ st.limit) (hlim : st.limit ≤ 16777216)
    (hn : st.acts.length ≤ 1000) (ha : st.armed ≤ 9223372036854775807) (hs : Short 100000000 st.now) (hd : a.data.length ≤ 100000000) (hk : a.at_ ≤ 8192) (hroom : tot st.now + (a.at_ + a.data.length) ≤ st.limit) :
    Calls Try.prog 10 #[.pointer (some ⟨d, 0, none⟩), .string (bs a.name), .int .i64 (a.at_ : Nat), .string (bs a.data)] w fun e w' => ∃ v', e = .returned (.int .i64 (if (writeSt st a).dead then 42 else 0)) ∧ Dsk B w' d nb fb v' (writeSt st a) ∧ Below B w w' :=
  (write_fr a h hdead h1 h2 hl hlim hn ha hs hd hk hroom).mono fun _ _ ⟨v', e1, e2, e3, _⟩ => ⟨v', e1, e2, e3⟩

set_option maxHeartbeats 1000000 in
theorem write_dead {B d nb fb : Nat} {v : Value} {st : DS} {w : World} (n s : Bytes) (k : Int) (h : Dsk B w d nb fb v st) (hdead : st.dead = true) :
    Calls Try.prog 10 #[.pointer (some ⟨d, 0, none⟩), .string (bs n), .int .i64 k, .string (bs s)] w fun e w' => e = .returned (.int .i64 42) ∧ Below w.heap.size w w' := by
  obtain ⟨w1, hw1⟩ : ∃ w1, w1 = ((w.alloc (.cells #[.string (bs n)] 9)).alloc (.cells #[.int .i64 k] 3)).alloc (.cells #[.string (bs s)] 9) := ⟨_, rfl⟩
  have hb1 : Below w.heap.size w w1 := by rw [hw1]; exact (((Below.refl _ w).alloc (Nat.le_refl _) _).alloc (by simp) _).alloc (by simp; omega) _
  have hwr := wrong_dead (h.later hb1) hdead (.string (bs n)) (.int .i64 k)
  have q0 : w1.cell? ⟨w.heap.size, 0, none⟩ = some (.string (bs n)) := by rw [hw1]; exact (((Blk.new w 9 _).alloc _).alloc _).cell 0
  have q1 : w1.cell? ⟨w.heap.size + 1, 0, none⟩ = some (.int .i64 k) := by
    have := ((Blk.new (w.alloc (.cells #[.string (bs n)] 9)) 3 #[.int .i64 k]).alloc (.cells #[.string (bs s)] 9)).cell 0
    rw [hw1]; simpa using this
  have HWR := Lib.hid hwr
  have HW := Lib.hid hw1
  have HB1 := Lib.hid hb1
  clear hwr hw1 hb1 h hdead
  go_enter Try.func10, Try.ntmps10
  go_wp2_with fail
  rw [← HW.out]
  refine HWR.out.mono ?_
  rintro e w' ⟨rfl, rfl⟩
  go_wp2_with fail
  go_ret
  exact ⟨rfl, HB1.out⟩
set_option maxHeartbeats 1000000 in
theorem write_nil {w : World} (n s : Bytes) (k : Int) :
    Calls Try.prog 10 #[.pointer none, .string (bs n), .int .i64 k, .string (bs s)] w fun e w' => e = .returned (.int .i64 2) ∧ Below w.heap.size w w' := by
  obtain ⟨w1, hw1⟩ : ∃ w1, w1 = ((w.alloc (.cells #[.string (bs n)] 9)).alloc (.cells #[.int .i64 k] 3)).alloc (.cells #[.string (bs s)] 9) := ⟨_, rfl⟩
  have hb1 : Below w.heap.size w w1 := by rw [hw1]; exact (((Below.refl _ w).alloc (Nat.le_refl _) _).alloc (by simp) _).alloc (by simp; omega) _
  have hwr := wrong_nil (.string (bs n)) (.int .i64 k) w1
  have HWR := Lib.hid hwr
  have HW := Lib.hid hw1
  have HB1 := Lib.hid hb1
  clear hwr hw1 hb1
  go_enter Try.func10, Try.ntmps10
  go_wp2_with fail
  rw [← HW.out]
  refine HWR.out.mono ?_
  rintro e w' ⟨rfl, rfl⟩
  go_wp2_with fail
  go_ret
  exact ⟨rfl, HB1.out⟩

set_option maxHeartbeats 1000000 in
theorem read_any {B d nb fb : Nat} {v : Value} {st : DS} {w : World} (h : Dsk B w d nb fb v st) (hdead : st.dead = false) (name : Bytes) (h1 : 1 ≤ name.length) (h2 : name.length ≤ 24) :
    Calls Try.prog 11 #[.pointer (some ⟨d, 0, none⟩), .string (bs name)] w fun e w' => e = .returned (.tuple #[.string (bs ((get st.now name).getD [])), .int .i64 (if (get st.now name).isSome then 0 else 25)]) ∧ w = w' := by
  have hwr := wrong_ok h hdead name 0 h1 h2 (Nat.zero_le _)
  have hl := h.now.look2 Try.underlying47 Try.underlying9 zero9 name
  have kd1 : w.cell? ⟨d, 1, none⟩ = some (.map (some nb)) := h.blk.cell 1
  obtain ⟨x, hx⟩ : ∃ x, x = (get st.now name).getD [] := ⟨_, rfl⟩
  have hz : (get st.now name).isSome = false → x = [] := by
    rw [hx]
    cases get st.now name with
    | none => exact fun _ => rfl
    | some _ => intro e; cases e
  rw [← hx] at hl ⊢
  obtain ⟨code, hcode⟩ : ∃ code : Int, code = if (get st.now name).isSome then 0 else 25 := ⟨_, rfl⟩
  rw [← hcode]
  cases hb : (get st.now name).isSome with
  | false =>
    rw [hb] at hl
    have hx0 := hz hb
    have e2 : code = if (get st.now name).isSome then 0 else 25 := hcode
    rw [hb] at e2
    simp at e2
    have HWR := Lib.hid hwr
    clear hx h hz hb hwr hcode
    go_enter Try.func11, Try.ntmps11
    go_wp2_with fail
    refine HWR.out.mono ?_
    rintro e w' ⟨rfl, rfl⟩
    go_wp2_with fail
    go_wp2_with fail
    go_ret2
    exact ⟨by rw [hx0, e2]; rfl, rfl⟩
  | true =>
    rw [hb] at hl
    have e2 : code = if (get st.now name).isSome then 0 else 25 := hcode
    rw [hb] at e2
    simp at e2
    have HWR := Lib.hid hwr
    clear hx h hz hb hwr hcode
    go_enter Try.func11, Try.ntmps11
    go_wp2_with fail
    refine HWR.out.mono ?_
    rintro e w' ⟨rfl, rfl⟩
    go_wp2_with fail
    go_wp2_with fail
    go_ret2
    exact ⟨by rw [e2]; rfl, rfl⟩
set_option maxHeartbeats 1000000 in
theorem read_nil {w : World} (name : Bytes) :
    Calls Try.prog 11 #[.pointer none, .string (bs name)] w fun e w' => e = .returned (.tuple #[.string (bs []), .int .i64 2]) ∧ w = w' := by
  have HWR := Lib.hid (wrong_nil (.string (bs name)) (.int .i64 0) w)
  go_enter Try.func11, Try.ntmps11
  go_wp2_with fail
  refine HWR.out.mono ?_
  rintro e w' ⟨rfl, rfl⟩
  go_wp2_with fail
  go_ret2
  exact ⟨rfl, rfl⟩
end Go.Proofs.Yticgcpbblefacaa
