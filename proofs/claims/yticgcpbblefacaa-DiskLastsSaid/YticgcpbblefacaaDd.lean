/- An act laid by, and done; a write, a look. -/
import Derived.Test.YticgcpbblefacaaDw
namespace Go.Proofs.Yticgcpbblefacaa
open Go.RowKit
attribute [local go_sem] bs_size bs_getElem bs_list bs_append

theorem info55 : (Try.prog.info? 55).map (fun i => (i.zero, i.size, i.bytes)) = some (some .nilFunc, 1, 8) := by kernel_rfl

theorem Dsk.append {B d nb fb n : Nat} {v v' : Value} {st : DS} {w w2 : World} {us : List Value} {u : Value} {a : Wr} (h : Dsk B w d nb fb v st) (hus : w.ownsRow B 55 1 v st.acts.length us) (hac : Acts w us st.acts) (hu : ActAt w u a)
    (hn : n = st.acts.length + 1) (hown : w2.ownsRow B 55 1 v' n (us ++ [u])) (hg : w.grownBy w2 v.ownBlock) :
    Dsk B (w2.setCell ⟨d, 3, none⟩ v') d nb fb v' { st with acts := st.acts ++ [a] } ∧ ActAt (w2.setCell ⟨d, 3, none⟩ v') u a ∧ Below B w (w2.setCell ⟨d, 3, none⟩ v') := by
  have hbox : ∀ g, v.ownBlock = some g → NotBox w g := NotBox.row hus
  have b2 : Blk w2 d 50 _ := h.blk.grown hg (fun e => h.acts.ne_blk h.blk (by decide) e.symm)
  have b3 := b2.set_ 3 v'
  have hg3 : w2.grownBy (w2.setCell ⟨d, 3, none⟩ v') (some d) := gb_setCell (gb_refl _ _) (p := ⟨d, 3, none⟩) (.inl rfl) _
  have hd2 : ∀ g, some d = some g → NotBox w2 g := fun g e => by cases e; exact NotBox.blk b2 (by decide) (by decide)
  have n2 : Fs w2 nb st.now := h.now.grown hg (fun e => h.acts.ne_fs h.now e.symm)
  have f2 : Fs w2 fb st.firm := h.firm.grown hg (fun e => h.acts.ne_fs h.firm e.symm)
  have a2 : Acts w2 (us ++ [u]) (st.acts ++ [a]) := (hac.grown hg hbox).snoc (hu.grown hg hbox)
  have hr2 : Rowed w2 B v' (st.acts ++ [a]) := ⟨us ++ [u], by rw [List.length_append, List.length_singleton, ← hn]; exact hown, a2⟩
  refine ⟨⟨b3, n2.grown hg3 (fun e => n2.ne_blk b2 (by cases e; rfl)), f2.grown hg3 (fun e => f2.ne_blk b2 (by cases e; rfl)), h.ne, hr2.grown hg3 hd2 (.inr (hr2.ne_blk b2 (by decide))), h.bd, h.bn, h.bf⟩, (hu.grown hg hbox).grown hg3 hd2, ?_⟩
  have hB : B ≤ w.heap.size := Nat.le_of_lt (Nat.lt_of_le_of_lt h.bd h.blk.lt)
  exact ((Below.refl B w).grown hg hB (fun k hk => (hus.lt k hk).1)).setCell (p := ⟨d, 3, none⟩) h.bd _

/-- blocks that are neither a disk nor a row of acts stay -/
def Fr (w w' : World) : Prop := ∀ g t cs, t ≠ 50 → t ≠ 55 → Blk w g t cs → Blk w' g t cs
theorem Fr.refl (w : World) : Fr w w := fun _ _ _ _ _ h => h
theorem Fr.trans {a b c : World} (h : Fr a b) (k : Fr b c) : Fr a c := fun g t cs h1 h2 hb => k g t cs h1 h2 (h g t cs h1 h2 hb)
theorem Fr.below {w w' : World} (h : Below w.heap.size w w') : Fr w w' := fun _ _ _ _ _ hb => hb.below h hb.lt
theorem Fr.grown {w w' : World} {row : Option Nat} (hg : w.grownBy w' row) (hn : ∀ g, row = some g → ∀ t cs, Blk w g t cs → t = 50 ∨ t = 55) : Fr w w' := fun g t cs h1 h2 hb =>
  hb.grown hg (fun e => by rcases hn g e.symm t cs hb with h | h; exact h1 h; exact h2 h)
theorem Fr.disk {w w' : World} {d : Nat} {cs : Array Value} (hd : Blk w d 50 cs) (hg : w.grownBy w' (some d)) : Fr w w' := Fr.grown hg (fun g e t cs' hb => by
  cases e
  unfold Blk at hd hb
  rw [hd] at hb
  cases hb
  exact .inl rfl)
theorem Fr.files {w w' : World} {d : Nat} {fs : Files} (hd : Fs w d fs) (hg : w.grownBy w' (some d)) : Fr w w' := Fr.grown hg (fun g e t cs' hb => by
  cases e
  unfold Blk at hb
  unfold Fs fobj at hd
  rw [hd] at hb
  cases hb)
theorem Fr.row {w w' : World} {B n : Nat} {v : Value} {xs : List Value} (h : w.ownsRow B 55 1 v n xs) (hg : w.grownBy w' v.ownBlock) : Fr w w' := Fr.grown hg (fun g e t cs' hb => by
  obtain ⟨c, fz, h1⟩ := Lib.ownsRow_kind h g e
  unfold Blk at hb
  rw [h1] at hb
  cases hb
  exact .inr rfl)
/-- what a write leaves -/
def writeSt (st : DS) (a : Wr) : DS :=
  let s2 := diesSt { st with acts := st.acts ++ [a] }
  if s2.dead then s2 else { s2 with now := doneL s2.now a false }

set_option maxHeartbeats 2000000 in
theorem does_fr {B d nb fb : Nat} {v u : Value} {st : DS} {w : World} {a : Wr} (h : Dsk B w d nb fb v st) (hu : ActAt w u a) (hn : st.acts.length ≤ 1000) (ha : st.armed ≤ 9223372036854775807)
    (hs : Short 100000000 st.now) (hd : a.data.length ≤ 100000000) (hk : a.at_ ≤ 8192) :
    Calls Try.prog 20 #[.pointer (some ⟨d, 0, none⟩), u] w fun e w' => ∃ v', e = .returned (.int .i64 (if (writeSt st a).dead then 42 else 0)) ∧ Dsk B w' d nb fb v' (writeSt st a) ∧ Below B w w' ∧ Fr w w' := by
  suffices main : ∀ st', writeSt st a = st' → ∀ code : Int, code = (if st'.dead then 42 else 0) → Calls Try.prog 20 #[.pointer (some ⟨d, 0, none⟩), u] w fun e w' => ∃ v', e = .returned (.int .i64 code) ∧ Dsk B w' d nb fb v' st' ∧ Below B w w' ∧ Fr w w' from main _ rfl _ rfl
  intro st' hst' code hcode
  have HST := Lib.hid hst'
  have HCODE := Lib.hid hcode
  clear hst' hcode
  obtain ⟨i0, hi, hz0, hz1, hz2⟩ := info_parts info55
  have hB : B ≤ w.heap.size := Nat.le_of_lt (Nat.lt_of_le_of_lt h.bd h.blk.lt)
  obtain ⟨w0, hw0⟩ : ∃ w0, w0 = w.alloc (.cells #[u] 55) := ⟨_, rfl⟩
  have hb0 : Below w.heap.size w w0 := by rw [hw0]; exact (Below.refl _ w).alloc (Nat.le_refl _) _
  have h0 := h.later hb0
  have hu0 := hu.grown (gb_of_below hb0 none) (fun _ e => by cases e)
  obtain ⟨us, hus, hac⟩ := h0.acts
  have c0 : w0.cell? ⟨w.heap.size, 0, none⟩ = some u := by rw [hw0]; simp
  have hB0 : B ≤ w0.heap.size := Nat.le_trans hB hb0.size
  have q3 : w.cell? ⟨d, 3, none⟩ = some v := h.blk.cell 3
  have q30 : w0.cell? ⟨d, 3, none⟩ = some v := h0.blk.cell 3
  obtain ⟨p, q, r, rfl, _, _, _⟩ := id hu
  have HB0 := Lib.hid hb0
  have HW := Lib.hid hw0
  have H0 := Lib.hid h0
  have HU := Lib.hid hu0
  have HUS := Lib.hid hus
  have HAC := Lib.hid hac
  have HSH := Lib.hid hs
  clear hb0 hw0 h0 hu0 hus hac h hu hs
  go_enter Try.func20, Try.ntmps20
  go_wp2_with (at_builtin; rw [← HW.out]; (refine wpList_append_own _ rfl _ _ 48 rfl B 55 i0 _ 1 8 Try.underlying48 hi hz0 hz1 hz2 rfl (by decide) v _ us rfl HUS.out ⟨w.heap.size, 0, none⟩ 1 1 [.func (.func 21) #[] #[.pointer (some ⟨p, 0, none⟩), .pointer (some ⟨q, 0, none⟩), .pointer (some ⟨r, 0, none⟩)]] rfl ?c1 ?c2 ?c3 ?c4 ?c5 hB0 ?_))
  case c1 => rfl
  case c2 =>
    intro j u hj
    match j, hj with
    | 0, hj => cases hj; exact c0
  case c3 =>
    intro x hx
    cases List.mem_singleton.1 hx
    rfl
  case c4 => unfold maxLen; omega
  case c5 => omega
  intro v' w2 hown2 hg2 _
  obtain ⟨h3, hu3, hb3⟩ := H0.out.append HUS.out HAC.out HU.out rfl hown2 hg2
  obtain ⟨ao, n', cap, rfl⟩ : ∃ ao n' cap, v' = .slice ao n' cap := by
    rcases hown2.2 with ⟨hv, _⟩ | ⟨g, cap, cur, hv, _⟩
    · exact ⟨_, _, _, hv⟩
    · exact ⟨_, _, _, hv⟩
  have b2 : Blk w2 d 50 _ := H0.out.blk.grown hg2 (fun e => H0.out.acts.ne_blk H0.out.blk (by decide) e.symm)
  have d3 := b2.cell 3
  have f3 := b2.frozen 3
  simp at d3
  obtain ⟨w3, hw3⟩ : ∃ w3, w3 = w2.setCell ⟨d, 3, none⟩ (.slice ao n' cap) := ⟨_, rfl⟩
  rw [← hw3] at h3 hu3 hb3
  have hB3 : Below B w w3 := (HB0.out.mono hB).trans hb3
  have HF3 : Hid (Fr w w3) := Lib.hid (by
    rw [hw3]
    exact (Fr.below HB0.out).trans ((Fr.row HUS.out hg2).trans (Fr.disk b2 (gb_setCell (gb_refl w2 _) (p := ⟨d, 3, none⟩) (.inl rfl) _))))
  have hdies := dies_any h3 (by exact ha)
  have hws : writeSt st a = if (diesSt { st with acts := st.acts ++ [a] }).dead then diesSt { st with acts := st.acts ++ [a] } else { diesSt { st with acts := st.acts ++ [a] } with now := doneL (diesSt { st with acts := st.acts ++ [a] }).now a false } := rfl
  have hnow : (diesSt { st with acts := st.acts ++ [a] }).now = st.now := by unfold diesSt; split <;> rfl
  obtain ⟨s2, hs2⟩ : ∃ s2, s2 = diesSt { st with acts := st.acts ++ [a] } := ⟨_, rfl⟩
  rw [← hs2] at hdies hws hnow
  have HDI := Lib.hid hdies
  have H3 := Lib.hid h3
  have HU3 := Lib.hid hu3
  have HB3 := Lib.hid hB3
  have HW3 := Lib.hid hw3
  have HWS := Lib.hid hws
  have HNOW := Lib.hid hnow
  clear h3 hu3 hb3 hB3 hw3 hdies b2 hown2 hg2 q3 q30 c0 HUS HAC H0 HU HB0 hs2 hws hnow
  by_cases c : s2.dead = true
  case' pos =>
    have e1 : Hid (st' = s2) := Lib.hid (by rw [← HST.out, HWS.out, if_pos c])
    have e2 : code = 42 := by rw [HCODE.out, e1.out, if_pos c]
    have HC := Lib.hid c
    go_wp2_with fail
    rw [← HW3.out]
    refine HDI.out.mono ?_
    rintro e w4 ⟨rfl, h4, hg4⟩
    rw [HC.out]
    have H4 := Lib.hid h4
    have HG4 := Lib.hid hg4
    have HF4 := Lib.hid (HF3.out.trans (Fr.disk H3.out.blk hg4))
    clear h4 hg4 c
    go_wp2_with fail
    go_ret
    rw [e1.out, e2]
    exact ⟨_, rfl, H4.out, HB3.out.grown HG4.out (Nat.le_trans hB HB3.out.size) (fun k hk => by cases hk; exact H4.out.bd), HF4.out⟩
  case' neg =>
    have c' : s2.dead = false := by simpa using c
    have e1 : Hid (st' = { s2 with now := doneL s2.now a false }) := Lib.hid (by rw [← HST.out, HWS.out, if_neg c])
    have e2 : code = 0 := by rw [HCODE.out, e1.out]; simp [c']
    have HC := Lib.hid c'
    go_wp2_with fail
    rw [← HW3.out]
    refine HDI.out.mono ?_
    rintro e w4 ⟨rfl, h4, hg4⟩
    rw [HC.out]
    have hd4 : Blk w3 d 50 _ := H3.out.blk
    have hu4 := HU3.out.grown hg4 (fun g e => by cases e; exact NotBox.blk hd4 (by decide) (by decide))
    obtain ⟨p', q', r', e', hp, hq, hr⟩ := hu4
    cases e'
    have k1 : w4.cell? ⟨d, 1, none⟩ = some (.map (some nb)) := h4.blk.cell 1
    have hact := act_any false w4 hp hq hr h4.now (by rw [HNOW.out]; exact HSH.out.get _) hd hk
    have HA := Lib.hid hact
    have HBp := Lib.hid (HB3.out.grown hg4 (Nat.le_trans hB HB3.out.size) (fun k hk => by cases hk; exact h4.bd))
    have HF4 := Lib.hid (HF3.out.trans (Fr.disk hd4 hg4))
    have H4 := Lib.hid h4
    clear hact h4 hg4 hp hq hr c c' hd4
    go_wp2_with (go_at_call 21; refine HA.out.mono ?_; rintro e w5 ⟨rfl, hf5, hg5⟩; have H5 := Lib.hid (H4.out.written hg5 hf5); have HG5 := Lib.hid hg5; clear hf5 hg5)
    go_ret
    rw [e1.out, e2]
    exact ⟨_, rfl, H5.out, HBp.out.grown HG5.out (Nat.le_trans hB HBp.out.size) (fun k hk => by cases hk; exact H4.out.bn), HF4.out.trans (Fr.files H4.out.now HG5.out)⟩


theorem does_any {B d nb fb : Nat} {v u : Value} {st : DS} {w : World} {a : Wr} (h : Dsk B w d nb fb v st) (hu : ActAt w u a) (hn : st.acts.length ≤ 1000) (ha : st.armed ≤ 9223372036854775807)
    (hs : Short 100000000 st.now) (hd : a.data.length ≤ 100000000) (hk : a.at_ ≤ 8192) :
    Calls Try.prog 20 #[.pointer (some ⟨d, 0, none⟩), u] w fun e w' => ∃ v', e = .returned (.int .i64 (if (writeSt st a).dead then 42 else 0)) ∧ Dsk B w' d nb fb v' (writeSt st a) ∧ Below B w w' :=
  (does_fr h hu hn ha hs hd hk).mono fun _ _ ⟨v', h1, h2, h3, _⟩ => ⟨v', h1, h2, h3⟩
end Go.Proofs.Yticgcpbblefacaa
