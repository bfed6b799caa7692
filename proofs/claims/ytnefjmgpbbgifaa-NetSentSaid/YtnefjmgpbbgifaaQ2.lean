/- The document's net: Take. -/
import Derived.Test.YtnefjmgpbbgifaaQ
namespace Go.Proofs.Ytnefjmgpbbgifaa
open Go.RowKit
attribute [local go_sem] bs_size bs_getElem bs_list bs_append

set_option maxRecDepth 100000 in
set_option maxHeartbeats 1600000 in
theorem rtake_bad (gR : Nat) (d s : Int) (v : Value) (ps : List Pk) (k : Int) (w : World) (hN : RefI w gR d s v ps) (hk : k < 0 ∨ (ps.length : Int) ≤ k) :
    Calls Try.prog 18 #[.pointer (some ⟨gR, 0, none⟩), .int .i64 k] w fun e w' => e = .returned (.tuple #[pv pk0, .int .i64 1]) ∧ Below w.heap.size w w' := by
  have hl := hN.lt
  have hc := hN.c0
  obtain ⟨A, c, rfl, _⟩ := hN.slice
  have HF := Lib.hid ((Below.refl w.heap.size w).alloc (Nat.le_refl _) (.cells #[.int .i64 0, .int .i64 0, .string ⟨#[]⟩] 30))
  clear hN
  unfold pv pk0
  by_cases h0 : k < 0
  · have e0 : decide (k < 0) = true := decide_eq_true h0
    go_enter Try.func18, Try.ntmps18
    go_wp2_with fail
    exact bodyPost_ret (v := .tuple #[.agg #[.int .i64 0, .int .i64 0, .string ⟨#[]⟩], .int .i64 1]) (by simp [results, Try.results18, go_sem]) rfl ⟨rfl, HF.out⟩
  · have e0 : decide (k < 0) = false := decide_eq_false h0
    have e1 : decide (k ≥ (ps.length : Int)) = true := decide_eq_true (by omega)
    go_enter Try.func18, Try.ntmps18
    go_wp2_with fail
    exact bodyPost_ret (v := .tuple #[.agg #[.int .i64 0, .int .i64 0, .string ⟨#[]⟩], .int .i64 1]) (by simp [results, Try.results18, go_sem]) rfl ⟨rfl, HF.out⟩

theorem rcell {w : World} {g : Nat} {cur : Array Value} {ps : List Pk} (hB : Blk w g 30 cur) (htk : cur.toList.take (ps.length * 3) = pcs ps) (j : Nat) (u : Value) (hu : (pcs ps)[j]? = some u) : w.cell? ⟨g, j, none⟩ = some u := by
  rw [hB.cell, ← Array.getElem?_toList]
  rw [← htk, List.getElem?_take] at hu
  split at hu
  · exact hu
  · cases hu
theorem pcs_drop (l : List Pk) (k : Nat) : (pcs l).drop (k * 3) = pcs (l.drop k) := by
  have h1 := List.take_append_drop (k * 3) (pcs l)
  have h2 : pcs (l.take k) ++ pcs (l.drop k) = pcs l := by rw [← pcs_append, List.take_append_drop]
  rw [pcs_take] at h1
  exact List.append_cancel_left (h1.trans h2.symm)
theorem pcs_one (l : List Pk) : ∀ u ∈ pcs l, u.oneCell' = true := by
  intro u hu
  simp only [pcs, List.mem_flatMap, pc] at hu
  obtain ⟨x, _, hx⟩ := hu
  rcases List.mem_cons.1 hx with rfl | hx
  · rfl
  rcases List.mem_cons.1 hx with rfl | hx
  · rfl
  cases List.mem_singleton.1 hx
  rfl

/-- where a new row lies -/
def At (w : World) (v v' : Value) : Prop := ∀ q, v'.ownBlock = some q → v.ownBlock = some q ∨ w.heap.size ≤ q
set_option maxRecDepth 100000 in
set_option maxHeartbeats 1600000 in
theorem rtake_ok (gR : Nat) (d s : Int) (v : Value) (ps : List Pk) (k : Nat) (w : World) (hN : RefI w gR d s v ps) (hk : k < ps.length) (hm : ps.length ≤ 1000000) :
    Calls Try.prog 18 #[.pointer (some ⟨gR, 0, none⟩), .int .i64 k] w fun e w' => ∃ v', e = .returned (.tuple #[pv ps[k], .int .i64 0]) ∧ RefI w' gR d s v' (ps.eraseIdx k) ∧ Keeps (NS gR v) w w' ∧ At w v v' := by
  obtain ⟨i0, hi0, hz0, hz1, hz2⟩ := info_parts info30
  have hl := hN.lt
  obtain ⟨g, cap, rfl, hgR, hgl, a0, a1, a2⟩ := hN.at hk
  have hc := hN.c0
  have hle : ps.length ≤ cap ∧ cap ≤ maxLen := by
    obtain ⟨A, c, e, h⟩ := hN.slice
    cases e; exact h
  have hcm : cap ≤ 9223372036854775807 := by have := hle.2; unfold maxLen at this; omega
  obtain ⟨cur, hrow, htk⟩ : ∃ cur, Blk w g 30 cur ∧ cur.toList.take (ps.length * 3) = pcs ps := by
    rcases hN.own.2 with ⟨e, _⟩ | ⟨g', cap', cur, e, _, hh, _, _, _, htk⟩
    · cases e
    · cases e; exact ⟨cur, hh, htk⟩
  have hrc : ∀ j u, (pcs ps)[j]? = some u → w.cell? ⟨g, j, none⟩ = some u := rcell hrow htk
  have hblk := hN.blk
  generalize hx : ps[k] = x at *
  have HN := Lib.hid hN
  have HX := Lib.hid hx
  have HRC := Lib.hid hrc
  have HBl := Lib.hid hblk
  clear hN hx hrow htk hrc hblk
  unfold pv
  have e0 : decide ((k : Int) < 0) = false := decide_eq_false (by omega)
  have e1 : decide ((k : Int) ≥ (ps.length : Int)) = false := decide_eq_false (by omega)
  go_enter Try.func18, Try.ntmps18
  go_wp2_with (at_builtin; refine wpList_append_own_at _ rfl (.tmp 27) (.tmp 33) 22 rfl 0 30 i0 _ 3 32 Try.underlying22 hi0 hz0 hz1 hz2 rfl (by decide) (.slice none 0 0) 0 [] rfl ⟨by simp, .inl ⟨rfl, rfl⟩⟩ ⟨g, 0, none⟩ k cap (pcs (ps.take k)) rfl ?c1 ?c2 (pcs_one _) ?c3 ?c4 (Nat.zero_le _) ?_)
  case c1 => rw [pcs_len, List.length_take]; congr 1; omega
  case c2 =>
    intro j u hu
    have hadd : (Addr.mk g 0 none).add j = ⟨g, j, none⟩ := by unfold Addr.add; split <;> simp_all
    rw [hadd]
    have hj : (pcs ps)[j]? = some u := by
      rw [← pcs_take, List.getElem?_take] at hu
      split at hu
      · exact hu
      · cases hu
    exact cell?_alloc_old (cell?_alloc_old (HRC.out j u hj) _) _
  case c3 => unfold maxLen; omega
  case c4 => omega
  intro lv W3 hlv hg3 _ hat3
  have hW2 : Below w.heap.size w ((w.alloc (.cells #[.int .i64 0, .int .i64 0, .string ⟨#[]⟩] 30)).alloc (.cells #[.int .i64 x.f, .int .i64 x.t, .string (bs x.d)] 30)) := ((Below.refl _ w).alloc (Nat.le_refl _) _).alloc (by simp) _
  have hb3 : Below w.heap.size w W3 := hW2.grown hg3 (by simp; omega) (by simp [Value.ownBlock])
  have hB4 : Blk W3 w.heap.size 30 #[.int .i64 0, .int .i64 0, .string ⟨#[]⟩] := ((Blk.new w 30 _).alloc _).grown hg3 (by simp [Value.ownBlock])
  have hB6 : Blk W3 (w.heap.size + 1) 30 #[.int .i64 x.f, .int .i64 x.t, .string (bs x.d)] := by
    have := Blk.new (w.alloc (.cells #[.int .i64 0, .int .i64 0, .string ⟨#[]⟩] 30)) 30 #[.int .i64 x.f, .int .i64 x.t, .string (bs x.d)]
    simp only [World.size_alloc] at this
    exact this.grown hg3 (by simp [Value.ownBlock])
  have hBR : Blk W3 gR 45 #[.slice (some ⟨g, 0, none⟩) ps.length cap, .int .i64 s, .int .i64 d] := HBl.out.below hb3 hl
  have hs3 : w.heap.size + 2 ≤ W3.heap.size := by have := hg3.size; simpa using this
  have hrc3 : ∀ j u, (pcs ps)[j]? = some u → W3.cell? ⟨g, j, none⟩ = some u := fun j u hu => (hb3.cell (p := ⟨g, j, none⟩) hgl).trans (HRC.out j u hu)
  have hc3 := hBR.cell 0
  simp only [List.getElem?_toArray, List.getElem?_cons_zero] at hc3
  have hlv2 : ∀ q, lv.ownBlock = some q → q = w.heap.size + 2 := by
    intro q hq
    rcases hat3 with h | h
    · rw [h] at hq; simp [Value.ownBlock] at hq
    · rw [h] at hq; cases hq; omega
  have HLV := Lib.hid hlv
  have HB3 := Lib.hid hb3
  have HB4 := Lib.hid hB4
  have HB6 := Lib.hid hB6
  have HBR := Lib.hid hBR
  have HRC3 := Lib.hid hrc3
  have HLV2 := Lib.hid hlv2
  clear hlv hg3 hat3 hW2 hb3 hB4 hB6 hBR hrc3 hlv2 hc a0 a1 a2
  have hw1 : (k : Int) + 1 ≤ (ps.length : Int) := by omega
  have hkc : (k : Int) + 1 ≤ (cap : Int) := by omega
  have hfin : ∀ v'' W4, W4.ownsRow 0 30 3 v'' (k + (ps.length - (k + 1))) (pcs (ps.take k) ++ pcs (ps.drop (k + 1))) → W3.grownBy W4 lv.ownBlock → (v''.ownBlock = lv.ownBlock ∨ v''.ownBlock = some W3.heap.size) →
      ∃ A c, v'' = .slice A (k + (ps.length - (k + 1))) c ∧ Blk W4 w.heap.size 30 #[.int .i64 0, .int .i64 0, .string ⟨#[]⟩] ∧ Blk (W4.setCell ⟨gR, 0, none⟩ v'') w.heap.size 30 #[.int .i64 0, .int .i64 0, .string ⟨#[]⟩] ∧ Blk (W4.setCell ⟨gR, 0, none⟩ v'') (w.heap.size + 1) 30 #[.int .i64 x.f, .int .i64 x.t, .string (bs x.d)] ∧ Blk W4 gR 45 #[.slice (some ⟨g, 0, none⟩) ps.length cap, .int .i64 s, .int .i64 d] ∧
        RefI ((((W4.setCell ⟨gR, 0, none⟩ v'').setCell ⟨w.heap.size, 0, none⟩ (.int .i64 x.f)).setCell ⟨w.heap.size, 1, none⟩ (.int .i64 x.t)).setCell ⟨w.heap.size, 2, none⟩ (.string (bs x.d))) gR d s v'' (ps.eraseIdx k) ∧
        Keeps (NS gR (.slice (some ⟨g, 0, none⟩) ps.length cap)) w ((((W4.setCell ⟨gR, 0, none⟩ v'').setCell ⟨w.heap.size, 0, none⟩ (.int .i64 x.f)).setCell ⟨w.heap.size, 1, none⟩ (.int .i64 x.t)).setCell ⟨w.heap.size, 2, none⟩ (.string (bs x.d))) ∧
        At w (.slice (some ⟨g, 0, none⟩) ps.length cap) v'' := by
    intro v'' W4 hO hg hat
    have hlt : ∀ q, v''.ownBlock = some q → w.heap.size + 2 ≤ q := by
      intro q hq
      rcases hat with h | h
      · have := HLV2.out q (by rw [← h]; exact hq); omega
      · rw [h] at hq; cases hq; exact hs3
    have n1 : ∀ q, q ≠ w.heap.size + 2 → some q ≠ lv.ownBlock := fun q hq e => hq (HLV2.out q e.symm)
    have b4 := HB4.out.grown hg (n1 _ (by omega))
    have b6 := HB6.out.grown hg (n1 _ (by omega))
    have bR := HBR.out.grown hg (n1 _ (by omega))
    have hform : ∃ A c, v'' = .slice A (k + (ps.length - (k + 1))) c := by
      rcases hO.2 with ⟨e, e2⟩ | ⟨g', cap', cur', e, _⟩
      · exact ⟨none, 0, by rw [e, e2]⟩
      · exact ⟨_, cap', e⟩
    obtain ⟨A, c, hv⟩ := hform
    have herase : pcs (ps.take k) ++ pcs (ps.drop (k + 1)) = pcs (ps.eraseIdx k) := by rw [← pcs_append, List.eraseIdx_eq_take_drop_succ]
    have hlen : (ps.eraseIdx k).length = k + (ps.length - (k + 1)) := by rw [List.length_eraseIdx_of_lt hk]; omega
    have hk1 : Keeps (NS gR (.slice (some ⟨g, 0, none⟩) ps.length cap)) w W4 := kp_trans (kp_below HB3.out) (kp_grown (S := fun i => i = w.heap.size + 2) hg (fun i h => HLV2.out i h)) (fun i hi h => by omega)
    have hk2 := three_kp (kp_set hk1 ⟨gR, 0, none⟩ v'' (fun _ => Or.inl rfl)) w.heap.size (.int .i64 x.f) (.int .i64 x.t) (.string (bs x.d)) (Nat.le_refl _)
    refine ⟨A, c, hv, b4, b4.far (by simp; omega) _, b6.far (by simp; omega) _, bR, ⟨?_, ?_, fun e => by have := hlt _ e; omega⟩, hk2, ?_⟩
    · have := bR.set_ 0 v''
      exact ((((this.far (by simp; omega) _).far (by simp; omega) _).far (by simp; omega) _))
    · have h4 := own_kp (w' := ((((W4.setCell ⟨gR, 0, none⟩ v'').setCell ⟨w.heap.size, 0, none⟩ (.int .i64 x.f)).setCell ⟨w.heap.size, 1, none⟩ (.int .i64 x.t)).setCell ⟨w.heap.size, 2, none⟩ (.string (bs x.d)))) hO (three_kpS (kp_set (kp_refl (fun i => i = gR ∨ i = w.heap.size) W4) _ _ (fun _ => Or.inl rfl)) w.heap.size _ _ _ (Or.inr rfl)) (fun q hq h => by have := hlt _ hq; omega)
      rw [hlen, ← herase]
      exact h4
    · intro q hq; right; have := hlt q hq; omega
  generalize hnn : k + (ps.length - (k + 1)) = nn at hfin
  have HNN := Lib.hid hnn
  have HFin := Lib.hid hfin
  have HLV3 := HLV.out
  clear hfin hnn
  by_cases hcap : cap = k + 1
  · have hl1 : ps.length - (k + 1) = 0 := by omega
    have hdr : pcs (ps.drop (k + 1)) = [] := by rw [List.drop_eq_nil_of_le (by omega)]; rfl
    go_wp2_with (at_builtin; refine wpList_append_own_at _ rfl (.tmp 36) (.tmp 43) 22 rfl 0 30 i0 _ 3 32 Try.underlying22 hi0 hz0 hz1 hz2 rfl (by decide) lv k _ rfl HLV3 ⟨g, 0, none⟩ 0 _ (pcs (ps.drop (k + 1))) rfl ?c1 ?c2 (pcs_one _) ?c3 ?c4 (Nat.zero_le _) ?_)
    case c1 => rw [hdr]; rfl
    case c2 => intro j u hu; rw [hdr] at hu; simp at hu
    case c3 => unfold maxLen; omega
    case c4 => omega
    intro v'' W4 hO hg _ hat
    obtain ⟨A, c, rfl, _, b4, b6, bR, hR, hK, hA⟩ := HFin.out v'' W4 (by rw [← HNN.out, hl1, hdr, List.append_nil]; exact hO) hg hat
    have k1 := bR.cell 0
    have k2 := bR.frozen 0
    have k3 := b4.frozen
    have f0 := k3 0
    have f1 := k3 1
    have f2 := k3 2
    obtain ⟨p0, p1, p2⟩ := blk3 b6
    obtain ⟨q0, q1, q2⟩ := blk3 b4
    obtain ⟨r0, r1, r2⟩ := blk3 (three (.int .i64 x.f) (.int .i64 x.t) (.string (bs x.d)) b4)
    simp only [List.getElem?_toArray, List.getElem?_cons_zero] at k1
    have HE := Lib.hid (And.intro hR (And.intro hK hA))
    clear hR hK hA hO hg hat b4 b6 bR k3
    go_wp2_with fail
    exact bodyPost_ret (v := .tuple #[.agg #[.int .i64 x.f, .int .i64 x.t, .string (bs x.d)], .int .i64 0]) (by simp [results, Try.results18, go_sem, r0, r1, r2]) rfl ⟨_, rfl, HE.out⟩
  · go_wp2_with (at_builtin; refine wpList_append_own_at _ rfl (.tmp 36) (.tmp 43) 22 rfl 0 30 i0 _ 3 32 Try.underlying22 hi0 hz0 hz1 hz2 rfl (by decide) lv k _ rfl HLV3 ⟨g, _, none⟩ (ps.length - (k + 1)) _ (pcs (ps.drop (k + 1))) rfl ?c1 ?c2 (pcs_one _) ?c3 ?c4 (Nat.zero_le _) ?_)
    case c1 => rw [pcs_len, List.length_drop]
    case c2 =>
      intro j u hu
      rw [← pcs_drop, List.getElem?_drop] at hu
      have := HRC3.out _ u hu
      have hadd : (Addr.mk g ((k + 1) * 3) none).add j = ⟨g, (k + 1) * 3 + j, none⟩ := by unfold Addr.add; split <;> simp_all
      rw [hadd]; exact this
    case c3 => unfold maxLen; omega
    case c4 => omega
    intro v'' W4 hO hg _ hat
    obtain ⟨A, c, rfl, _, b4, b6, bR, hR, hK, hA⟩ := HFin.out v'' W4 (by rw [← HNN.out]; exact hO) hg hat
    have k1 := bR.cell 0
    have k2 := bR.frozen 0
    have k3 := b4.frozen
    have f0 := k3 0
    have f1 := k3 1
    have f2 := k3 2
    obtain ⟨p0, p1, p2⟩ := blk3 b6
    obtain ⟨q0, q1, q2⟩ := blk3 b4
    obtain ⟨r0, r1, r2⟩ := blk3 (three (.int .i64 x.f) (.int .i64 x.t) (.string (bs x.d)) b4)
    simp only [List.getElem?_toArray, List.getElem?_cons_zero] at k1
    have HE := Lib.hid (And.intro hR (And.intro hK hA))
    clear hR hK hA hO hg hat b4 b6 bR k3
    go_wp2_with fail
    exact bodyPost_ret (v := .tuple #[.agg #[.int .i64 x.f, .int .i64 x.t, .string (bs x.d)], .int .i64 0]) (by simp [results, Try.results18, go_sem, r0, r1, r2]) rfl ⟨_, rfl, HE.out⟩
end Go.Proofs.Ytnefjmgpbbgifaa
