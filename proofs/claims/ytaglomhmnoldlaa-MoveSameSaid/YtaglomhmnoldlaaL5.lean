/- The walk of MovePlays. -/
import Derived.Test.YtaglomhmnoldlaaL4
namespace Go.Proofs.Ytaglomhmnoldlaa
set_option linter.unusedSimpArgs false
set_option linter.unusedVariables false
open Go.RowKit
attribute [local go_sem] bs_size bs_getElem bs_list bs_append

/-- the cells of an operation at a place -/
def At11 (w' : World) (b o : Nat) (x : TOp) : Prop := w'.cell? ⟨b, o, none⟩ = some (.int .i64 x.st.1) ∧ w'.cell? ⟨b, o + 1, none⟩ = some (.int .i64 x.st.2) ∧ w'.cell? ⟨b, o + 2, none⟩ = some (.int .i64 x.seq) ∧ w'.cell? ⟨b, o + 3, none⟩ = some (.int .i64 x.kind) ∧ w'.cell? ⟨b, o + 4, none⟩ = some (.int .i64 x.node.1) ∧ w'.cell? ⟨b, o + 5, none⟩ = some (.int .i64 x.node.2) ∧ w'.cell? ⟨b, o + 6, none⟩ = some (.bool x.dir) ∧ w'.cell? ⟨b, o + 7, none⟩ = some (.int .i64 x.par.1) ∧ w'.cell? ⟨b, o + 8, none⟩ = some (.int .i64 x.par.2) ∧ w'.cell? ⟨b, o + 9, none⟩ = some (.string (bs x.nm)) ∧ w'.cell? ⟨b, o + 10, none⟩ = some (.string (bs x.mf))
theorem At11.of {w : World} {A : Option Addr} {n c k : Nat} {xs : List TOp} (h : Ops w A n c xs) (hk : k < xs.length) : ∃ b off, A = some ⟨b, off, none⟩ ∧ b < w.heap.size ∧ At11 w b (off + k * 11) xs[k] ∧ OpS xs[k] := by
  obtain ⟨b, off, e, hlt, c0, c1, c2, c3, c4, c5, c6, c7, c8, c9, c10, m1, m2⟩ := Ops.at_ h hk
  exact ⟨b, off, e, hlt, ⟨c0, c1, c2, c3, c4, c5, c6, c7, c8, c9, c10⟩, m1, m2⟩
theorem At11.below {w w' : World} {b o : Nat} {x : TOp} (h : At11 w b o x) (hb : Below w.heap.size w w') (hlt : b < w.heap.size) : At11 w' b o x := by
  obtain ⟨c0, c1, c2, c3, c4, c5, c6, c7, c8, c9, c10⟩ := h
  exact ⟨cell_below hb hlt c0, cell_below hb hlt c1, cell_below hb hlt c2, cell_below hb hlt c3, cell_below hb hlt c4, cell_below hb hlt c5, cell_below hb hlt c6, cell_below hb hlt c7, cell_below hb hlt c8, cell_below hb hlt c9, cell_below hb hlt c10⟩

theorem wpAnyH_weaken {P : Program} {md : Region.Mode} {ops : Array Oper} {Q : Exit → Act → World → Prop} {S1 S2 : World → Prop} (h : ∀ w, S2 w → S1 w) : ∀ (n : Nat) (l : Array Bool) (a : Act) (w : World), wpAnyH P md ops Q S2 n l a w → wpAnyH P md ops Q S1 n l a w
  | 0, _, _, _, k => k
  | n + 1, _, _, _, k => ⟨k.1, fun i hi => wpOp_mono (fun a' w' k' => ⟨h _ k'.1, wpAnyH_weaken h n _ a' w' k'.2⟩) (k.2 i hi)⟩

set_option maxRecDepth 100000 in
set_option maxHeartbeats 3200000 in
theorem law_plays (A : Option Addr) (n c : Nat) (l : List TOp) (w : World) (hx : Ops w A n c l) :
    Calls Try.prog 5 #[.slice A n c] w fun e w' => e = .returned (.bool true) ∧ Below w.heap.size w w' := by
  have hn := hx.len
  have hmx := hx.max
  have hle := hx.le
  have AW : RowKit.Hid (∀ w2, Below w.heap.size w w2 → Calls Try.prog 9 #[] w2 fun e w' => e = .returned (.bool true) ∧ Below w.heap.size w w') := Lib.hid (fun w2 hb => (awake_any w2).mono fun e w9 h => ⟨h.1, hb.trans (h.2.mono hb.size)⟩)
  have HX := Lib.hid hx
  have HNew := Lib.hid (new_live w)
  clear hx
  go_enter Try.func5, Try.ntmps5
  go_wp2_with fail
  refine HNew.out.mono ?_
  rintro e w1 ⟨rfl, hl⟩
  have HL1 := Lib.hid hl
  clear hl HNew
  have HP : RowKit.Hid (w.heap.size < w.heap.size + 1) := Lib.hid (by omega)
  generalize hp : w.heap.size + 1 = p at *
  have HF := Lib.hid (few120_is A n c l w1 (HX.out.below HL1.out.below))
  cases hf : fewC l with
  | false =>
    rw [hf] at HF
    clear hf
    go_wp2_with fail
    refine HF.out.mono ?_
    rintro e w2 ⟨rfl, hb2⟩
    have HB2 := Lib.hid (HL1.out.below.trans (hb2.mono HL1.out.below.size))
    clear hb2
    go_wp2_with fail
    refine (AW.out _ HB2.out).mono ?_
    rintro e w9 ⟨rfl, hb9⟩
    have HB9 := Lib.hid hb9
    clear hb9
    go_wp2_with fail
    go_ret
    exact ⟨rfl, HB9.out⟩
  | true =>
    have HLen : RowKit.Hid (n ≤ 120) := Lib.hid (by rw [← hn]; exact fewC_le hf)
    rw [hf] at HF
    clear hf
    go_wp2_with fail
    refine HF.out.mono ?_
    rintro e w2 ⟨rfl, hb2⟩
    have HL2 := Lib.hid (HL1.out.then_ hb2)
    clear hb2
    go_upto_region 5 with (fail)
    have hT : Two w (w2.alloc (.cells #[.slice none 0 0, .int .i64 0] 43)) p w.heap.size w2.heap.size (.slice none 0 0) (.slice none 0 0) 0 [] 0 [] := by
      have hlt := HL2.out.p_lt
      have hlm := HL2.out.m_lt
      exact ⟨HL2.out.then_ ((Below.refl _ _).alloc (Nat.le_refl _) _), ⟨Blk.new w2 43 _, OwnC.nil_ _ _ _, by simp [Value.ownBlock], List.Pairwise.nil, by simp, (fun x hx => by cases hx), HL2.out.size⟩, by omega, by omega, by simp [Value.ownBlock], by simp [Value.ownBlock], by simp [Value.ownBlock], by simp [Value.ownBlock]⟩
    have HT := Lib.hid hT
    clear hT
    generalize hpr : w2.heap.size = pr at *
    clear hpr
    go_wp2_with fail
    go_loopw [5] (fun i wr => ∃ (k : Nat) (v v2 : Value) (r : Int) (L : List TOp), k ≤ n ∧ i = .int .i64 k ∧ RowKit.Hid (Two w wr p w.heap.size pr v v2 r L r L)) (fun i _ => n - (intOf i).toNat)
    case atStart => exact ⟨0, _, _, _, _, Nat.zero_le _, rfl, HT⟩
    case round =>
      obtain ⟨k, v, v2, r, L, hk, rfl, HTr⟩ := hrel
      rcases Nat.lt_or_ge k n with hlt | hge
      · have hki : (k : Int) < (n : Int) := by omega
        obtain ⟨b, off, rfl, hbl, h11, hsx⟩ := At11.of HX.out (by omega : k < l.length)
        have HC : RowKit.Hid (∀ w', Below w.heap.size w w' → At11 w' b (off + k * 11) l[k]) := Lib.hid (fun w' hb => h11.below hb hbl)
        clear h11 hbl
        generalize l[k] = x at *
        have HSx := Lib.hid hsx
        clear hsx
        obtain ⟨cd, hcd⟩ : ∃ cd, cd = codeO L x := ⟨_, rfl⟩
        obtain ⟨r', hr'⟩ : ∃ r', r' = redO r L x := ⟨_, rfl⟩
        obtain ⟨L', hL'⟩ : ∃ L', L' = insO L x := ⟨_, rfl⟩
        have HCd := Lib.hid hcd
        have HR' := Lib.hid hr'
        have HL' := Lib.hid hL'
        clear hcd hr' hL'
        unfold At11 at HC
        have c11 := HC.out wr.drew HTr.out.live.below.drew
        go_upto_region 8 with (fail)
        refine wp_region_held_drew (S := (fun w' => w'.cell? ⟨b, off + k * 11, none⟩ = some (.int .i64 x.st.1) ∧ w'.cell? ⟨b, off + k * 11 + 1, none⟩ = some (.int .i64 x.st.2) ∧ w'.cell? ⟨b, off + k * 11 + 2, none⟩ = some (.int .i64 x.seq) ∧ w'.cell? ⟨b, off + k * 11 + 3, none⟩ = some (.int .i64 x.kind) ∧ w'.cell? ⟨b, off + k * 11 + 4, none⟩ = some (.int .i64 x.node.1) ∧ w'.cell? ⟨b, off + k * 11 + 5, none⟩ = some (.int .i64 x.node.2) ∧ w'.cell? ⟨b, off + k * 11 + 6, none⟩ = some (.bool x.dir) ∧ w'.cell? ⟨b, off + k * 11 + 7, none⟩ = some (.int .i64 x.par.1) ∧ w'.cell? ⟨b, off + k * 11 + 8, none⟩ = some (.int .i64 x.par.2) ∧ w'.cell? ⟨b, off + k * 11 + 9, none⟩ = some (.string (bs x.nm)) ∧ w'.cell? ⟨b, off + k * 11 + 10, none⟩ = some (.string (bs x.mf)))) (by kernel_rfl) c11 (fun hHeld => ?_)
        refine wpAnyH_take (i := 0) (v := ?_) rfl (by kernel_rfl) (by kernel_rfl) (by kernel_rfl) (fun _ _ _ h => h) (Or.inl ⟨by first | (with_reducible rfl) | kernel_rfl, ?_⟩) hHeld ?_
        rotate_left
        · (intro w hSw; (try dsimp only at hSw); go_simp; first | done | with_reducible rfl)
        (try simp only [Act.put, List.getElem_toArray, List.getElem_cons_zero, List.getElem_cons_succ, List.setIfInBounds_toArray, List.set_cons_zero, List.set_cons_succ])
        refine wpAnyH_take (i := 1) (v := ?_) rfl (by kernel_rfl) (by kernel_rfl) (by kernel_rfl) (fun _ _ _ h => h) (Or.inl ⟨by first | (with_reducible rfl) | kernel_rfl, ?_⟩) hHeld ?_
        rotate_left
        · (intro w hSw; (try dsimp only at hSw); go_simp; first | done | with_reducible rfl)
        (try simp only [Act.put, List.getElem_toArray, List.getElem_cons_zero, List.getElem_cons_succ, List.setIfInBounds_toArray, List.set_cons_zero, List.set_cons_succ])
        refine wpAnyH_take (i := 2) (v := ?_) rfl (by kernel_rfl) (by kernel_rfl) (by kernel_rfl) (fun _ _ _ h => h) (Or.inl ⟨by first | (with_reducible rfl) | kernel_rfl, ?_⟩) hHeld ?_
        rotate_left
        · (intro w hSw; (try dsimp only at hSw); go_simp; first | done | with_reducible rfl)
        (try simp only [Act.put, List.getElem_toArray, List.getElem_cons_zero, List.getElem_cons_succ, List.setIfInBounds_toArray, List.set_cons_zero, List.set_cons_succ])
        refine wpAnyH_take (i := 3) (v := ?_) rfl (by kernel_rfl) (by kernel_rfl) (by kernel_rfl) (fun _ _ _ h => h) (Or.inl ⟨by first | (with_reducible rfl) | kernel_rfl, ?_⟩) hHeld ?_
        rotate_left
        · (intro w hSw; (try dsimp only at hSw); go_simp; first | done | with_reducible rfl)
        (try simp only [Act.put, List.getElem_toArray, List.getElem_cons_zero, List.getElem_cons_succ, List.setIfInBounds_toArray, List.set_cons_zero, List.set_cons_succ])
        refine wpAnyH_take (i := 4) (v := ?_) rfl (by kernel_rfl) (by kernel_rfl) (by kernel_rfl) (fun _ _ _ h => h) (Or.inl ⟨by first | (with_reducible rfl) | kernel_rfl, ?_⟩) hHeld ?_
        rotate_left
        · (intro w hSw; (try dsimp only at hSw); go_simp; first | done | with_reducible rfl)
        (try simp only [Act.put, List.getElem_toArray, List.getElem_cons_zero, List.getElem_cons_succ, List.setIfInBounds_toArray, List.set_cons_zero, List.set_cons_succ])
        refine wpAnyH_take (i := 6) (v := ?_) rfl (by kernel_rfl) (by kernel_rfl) (by kernel_rfl) (fun _ _ _ h => h) (Or.inl ⟨by first | (with_reducible rfl) | kernel_rfl, ?_⟩) hHeld ?_
        rotate_left
        · (intro w hSw; (try dsimp only at hSw); go_simp; first | done | with_reducible rfl)
        (try simp only [Act.put, List.getElem_toArray, List.getElem_cons_zero, List.getElem_cons_succ, List.setIfInBounds_toArray, List.set_cons_zero, List.set_cons_succ])
        refine wpAnyH_take (i := 7) (v := ?_) rfl (by kernel_rfl) (by kernel_rfl) (by kernel_rfl) (fun _ _ _ h => h) (Or.inl ⟨by first | (with_reducible rfl) | kernel_rfl, ?_⟩) hHeld ?_
        rotate_left
        · (intro w hSw; (try dsimp only at hSw); go_simp; first | done | with_reducible rfl)
        (try simp only [Act.put, List.getElem_toArray, List.getElem_cons_zero, List.getElem_cons_succ, List.setIfInBounds_toArray, List.set_cons_zero, List.set_cons_succ])
        refine wpAnyH_take (i := 8) (v := ?_) rfl (by kernel_rfl) (by kernel_rfl) (by kernel_rfl) (fun _ _ _ h => h) (Or.inl ⟨by first | (with_reducible rfl) | kernel_rfl, ?_⟩) hHeld ?_
        rotate_left
        · (intro w hSw; (try dsimp only at hSw); go_simp; first | done | with_reducible rfl)
        (try simp only [Act.put, List.getElem_toArray, List.getElem_cons_zero, List.getElem_cons_succ, List.setIfInBounds_toArray, List.set_cons_zero, List.set_cons_succ])
        refine wpAnyH_take (i := 9) (v := ?_) rfl (by kernel_rfl) (by kernel_rfl) (by kernel_rfl) (fun _ _ _ h => h) (Or.inl ⟨by first | (with_reducible rfl) | kernel_rfl, ?_⟩) hHeld ?_
        rotate_left
        · (intro w hSw; (try dsimp only at hSw); go_simp; first | done | with_reducible rfl)
        (try simp only [Act.put, List.getElem_toArray, List.getElem_cons_zero, List.getElem_cons_succ, List.setIfInBounds_toArray, List.set_cons_zero, List.set_cons_succ])
        refine wpAnyH_take (i := 10) (v := ?_) rfl (by kernel_rfl) (by kernel_rfl) (by kernel_rfl) (fun _ _ _ h => h) (Or.inl ⟨by first | (with_reducible rfl) | kernel_rfl, ?_⟩) hHeld ?_
        rotate_left
        · (intro w hSw; (try dsimp only at hSw); go_simp; first | done | with_reducible rfl)
        (try simp only [Act.put, List.getElem_toArray, List.getElem_cons_zero, List.getElem_cons_succ, List.setIfInBounds_toArray, List.set_cons_zero, List.set_cons_succ])
        refine wpAnyH_ready (rs := [5]) (by kernel_rfl) (by simp) ?_
        refine AllReadyH.cons rfl (fun K hK => ?_) AllReadyH.nil
        go_simp
        refine (ins_two x HSx.out (HTr.out.then_ (Below.refl _ _).drew)).mono ?_
        rintro e w3 ⟨v3, rfl, ht3⟩
        rw [← HCd.out]
        rw [← HR'.out, ← HL'.out] at ht3
        have HT3 := Lib.hid ht3
        have HB3 := Lib.hid ht3.live.below
        clear ht3
        refine hK.out _ _ (HC.out _ HB3.out) (fun hHeld => ?_)
        clear hK K
        (try simp only [Act.put, List.getElem_toArray, List.getElem_cons_zero, List.getElem_cons_succ, List.setIfInBounds_toArray, List.set_cons_zero, List.set_cons_succ])
        refine wpAnyH_ready (rs := [11]) (by kernel_rfl) (by simp) ?_
        refine AllReadyH.cons rfl (fun K hK => ?_) AllReadyH.nil
        go_simp
        refine (rins_two x HSx.out HT3.out).mono ?_
        rintro e w4 ⟨v4, rfl, ht4⟩
        rw [← HCd.out]
        rw [← HR'.out, ← HL'.out] at ht4
        have HT4 := Lib.hid ht4
        have HB4 := Lib.hid ht4.live.below
        obtain ⟨Ar, cr, rfl, hor, c04, c14⟩ := ht4.cells
        have HOr := Lib.hid hor
        have HRc : RowKit.Hid (∀ w', Below w4.heap.size w4 w' → w'.cell? ⟨pr, 0, none⟩ = some (.slice Ar L'.length cr) ∧ w'.cell? ⟨pr, 1, none⟩ = some (.int .i64 r')) := Lib.hid (fun w' hb => ⟨cell_below hb (cell_lt c04) c04, cell_below hb (cell_lt c14) c14⟩)
        have HD4 := Lib.hid (Below.refl w4.heap.size w4)
        clear ht4 hor c04 c14
        refine hK.out _ _ (HC.out _ HB4.out) (fun hHeld => ?_)
        clear hK K
        (try simp only [Act.put, List.getElem_toArray, List.getElem_cons_zero, List.getElem_cons_succ, List.setIfInBounds_toArray, List.set_cons_zero, List.set_cons_succ])
        refine wpAnyH_take (i := 12) (v := ?_) rfl (by kernel_rfl) (by kernel_rfl) (by kernel_rfl) (fun _ _ _ h => h) (Or.inl ⟨by first | (with_reducible rfl) | kernel_rfl, ?_⟩) hHeld ?_
        rotate_left
        · (intro w hSw; (try dsimp only at hSw); go_simp; first | done | with_reducible rfl)
        (try simp only [Act.put, List.getElem_toArray, List.getElem_cons_zero, List.getElem_cons_succ, List.setIfInBounds_toArray, List.set_cons_zero, List.set_cons_succ])
        refine wpAnyH_take (i := 13) (v := ?_) rfl (by kernel_rfl) (by kernel_rfl) (by kernel_rfl) (fun _ _ _ h => h) (Or.inl ⟨by first | (with_reducible rfl) | kernel_rfl, ?_⟩) hHeld ?_
        rotate_left
        · (intro w hSw; (try dsimp only at hSw); go_simp; first | done | with_reducible rfl)
        (try simp only [Act.put, List.getElem_toArray, List.getElem_cons_zero, List.getElem_cons_succ, List.setIfInBounds_toArray, List.set_cons_zero, List.set_cons_succ])
        refine wpAnyH_weaken (S2 := (fun w' => (w'.cell? ⟨b, off + k * 11, none⟩ = some (.int .i64 x.st.1) ∧ w'.cell? ⟨b, off + k * 11 + 1, none⟩ = some (.int .i64 x.st.2) ∧ w'.cell? ⟨b, off + k * 11 + 2, none⟩ = some (.int .i64 x.seq) ∧ w'.cell? ⟨b, off + k * 11 + 3, none⟩ = some (.int .i64 x.kind) ∧ w'.cell? ⟨b, off + k * 11 + 4, none⟩ = some (.int .i64 x.node.1) ∧ w'.cell? ⟨b, off + k * 11 + 5, none⟩ = some (.int .i64 x.node.2) ∧ w'.cell? ⟨b, off + k * 11 + 6, none⟩ = some (.bool x.dir) ∧ w'.cell? ⟨b, off + k * 11 + 7, none⟩ = some (.int .i64 x.par.1) ∧ w'.cell? ⟨b, off + k * 11 + 8, none⟩ = some (.int .i64 x.par.2) ∧ w'.cell? ⟨b, off + k * 11 + 9, none⟩ = some (.string (bs x.nm)) ∧ w'.cell? ⟨b, off + k * 11 + 10, none⟩ = some (.string (bs x.mf))) ∧ w'.cell? ⟨pr, 0, none⟩ = some (.slice Ar L'.length cr) ∧ w'.cell? ⟨pr, 1, none⟩ = some (.int .i64 r'))) (fun _ h => h.1) _ _ _ _ ?_
        replace hHeld : (fun w' => (w'.cell? ⟨b, off + k * 11, none⟩ = some (.int .i64 x.st.1) ∧ w'.cell? ⟨b, off + k * 11 + 1, none⟩ = some (.int .i64 x.st.2) ∧ w'.cell? ⟨b, off + k * 11 + 2, none⟩ = some (.int .i64 x.seq) ∧ w'.cell? ⟨b, off + k * 11 + 3, none⟩ = some (.int .i64 x.kind) ∧ w'.cell? ⟨b, off + k * 11 + 4, none⟩ = some (.int .i64 x.node.1) ∧ w'.cell? ⟨b, off + k * 11 + 5, none⟩ = some (.int .i64 x.node.2) ∧ w'.cell? ⟨b, off + k * 11 + 6, none⟩ = some (.bool x.dir) ∧ w'.cell? ⟨b, off + k * 11 + 7, none⟩ = some (.int .i64 x.par.1) ∧ w'.cell? ⟨b, off + k * 11 + 8, none⟩ = some (.int .i64 x.par.2) ∧ w'.cell? ⟨b, off + k * 11 + 9, none⟩ = some (.string (bs x.nm)) ∧ w'.cell? ⟨b, off + k * 11 + 10, none⟩ = some (.string (bs x.mf))) ∧ w'.cell? ⟨pr, 0, none⟩ = some (.slice Ar L'.length cr) ∧ w'.cell? ⟨pr, 1, none⟩ = some (.int .i64 r')) w4 := ⟨HC.out _ HB4.out, HRc.out _ HD4.out⟩
        refine wpAnyH_take (i := 14) (v := ?_) rfl (by kernel_rfl) (by kernel_rfl) (by kernel_rfl) (fun _ _ _ h => h) (Or.inl ⟨by first | (with_reducible rfl) | kernel_rfl, ?_⟩) hHeld ?_
        rotate_left
        · (intro w hSw; (try dsimp only at hSw); go_simp; first | done | with_reducible rfl)
        (try simp only [Act.put, List.getElem_toArray, List.getElem_cons_zero, List.getElem_cons_succ, List.setIfInBounds_toArray, List.set_cons_zero, List.set_cons_succ])
        refine wpAnyH_take (i := 16) (v := ?_) rfl (by kernel_rfl) (by kernel_rfl) (by kernel_rfl) (fun _ _ _ h => h) (Or.inl ⟨by first | (with_reducible rfl) | kernel_rfl, ?_⟩) hHeld ?_
        rotate_left
        · (intro w hSw; (try dsimp only at hSw); go_simp; first | done | with_reducible rfl)
        (try simp only [Act.put, List.getElem_toArray, List.getElem_cons_zero, List.getElem_cons_succ, List.setIfInBounds_toArray, List.set_cons_zero, List.set_cons_succ])
        refine wpAnyH_take (i := 17) (v := ?_) rfl (by kernel_rfl) (by kernel_rfl) (by kernel_rfl) (fun _ _ _ h => h) (Or.inl ⟨by first | (with_reducible rfl) | kernel_rfl, ?_⟩) hHeld ?_
        rotate_left
        · (intro w hSw; (try dsimp only at hSw); go_simp; first | done | with_reducible rfl)
        (try simp only [Act.put, List.getElem_toArray, List.getElem_cons_zero, List.getElem_cons_succ, List.setIfInBounds_toArray, List.set_cons_zero, List.set_cons_succ])
        refine wpAnyH_take (i := 18) (v := ?_) rfl (by kernel_rfl) (by kernel_rfl) (by kernel_rfl) (fun _ _ _ h => h) (Or.inl ⟨by first | (with_reducible rfl) | kernel_rfl, ?_⟩) hHeld ?_
        rotate_left
        · (intro w hSw; (try dsimp only at hSw); go_simp; first | done | with_reducible rfl)
        (try simp only [Act.put, List.getElem_toArray, List.getElem_cons_zero, List.getElem_cons_succ, List.setIfInBounds_toArray, List.set_cons_zero, List.set_cons_succ])
        refine wpAnyH_take (i := 19) (v := ?_) rfl (by kernel_rfl) (by kernel_rfl) (by kernel_rfl) (fun _ _ _ h => h) (Or.inl ⟨by first | (with_reducible rfl) | kernel_rfl, ?_⟩) hHeld ?_
        rotate_left
        · (intro w hSw; (try dsimp only at hSw); go_simp; first | done | with_reducible rfl)
        (try simp only [Act.put, List.getElem_toArray, List.getElem_cons_zero, List.getElem_cons_succ, List.setIfInBounds_toArray, List.set_cons_zero, List.set_cons_succ])
        refine wpAnyH_ready (rs := [15]) (by kernel_rfl) (by simp) ?_
        refine AllReadyH.cons rfl (fun K hK => ?_) AllReadyH.nil
        go_simp
        refine (ops_live HT4.out.live).mono ?_
        rintro e w5 ⟨A5, c5, rfl, ho5, hb5⟩
        have HT5 := Lib.hid (HT4.out.then_ hb5)
        have HO5 := Lib.hid ho5
        have HB5 := Lib.hid HT5.out.live.below
        have HOr5 := Lib.hid (HOr.out.below hb5)
        have HD5 := Lib.hid (HD4.out.trans (hb5.mono HD4.out.size))
        clear hb5 ho5
        refine hK.out _ _ (⟨HC.out _ HB5.out, HRc.out _ HD5.out⟩) (fun hHeld => ?_)
        clear hK K
        (try simp only [Act.put, List.getElem_toArray, List.getElem_cons_zero, List.getElem_cons_succ, List.setIfInBounds_toArray, List.set_cons_zero, List.set_cons_succ])
        refine wpAnyH_ready (rs := [20]) (by kernel_rfl) (by simp) ?_
        refine AllReadyH.cons rfl (fun K hK => ?_) AllReadyH.nil
        go_simp
        refine (osame_any A5 Ar _ c5 cr L' _ HO5.out HOr5.out).mono ?_
        rintro e w6 ⟨rfl, hb6⟩
        have HT6 := Lib.hid (HT5.out.then_ hb6)
        have HB6 := Lib.hid HT6.out.live.below
        have HD6 := Lib.hid (HD5.out.trans (hb6.mono HD5.out.size))
        clear hb6
        refine hK.out _ _ (⟨HC.out _ HB6.out, HRc.out _ HD6.out⟩) (fun hHeld => ?_)
        clear hK K
        (try simp only [Act.put, List.getElem_toArray, List.getElem_cons_zero, List.getElem_cons_succ, List.setIfInBounds_toArray, List.set_cons_zero, List.set_cons_succ])
        refine wpAnyH_take (i := 21) (v := ?_) rfl (by kernel_rfl) (by kernel_rfl) (by kernel_rfl) (fun _ _ _ h => h) (Or.inl ⟨by first | (with_reducible rfl) | kernel_rfl, ?_⟩) hHeld ?_
        rotate_left
        · (intro w hSw; (try dsimp only at hSw); go_simp; first | done | with_reducible rfl)
        (try simp only [Act.put, List.getElem_toArray, List.getElem_cons_zero, List.getElem_cons_succ, List.setIfInBounds_toArray, List.set_cons_zero, List.set_cons_succ])
        refine wpAnyH_take (i := 22) (v := ?_) rfl (by kernel_rfl) (by kernel_rfl) (by kernel_rfl) (fun _ _ _ h => h) (Or.inl ⟨by first | (with_reducible rfl) | kernel_rfl, ?_⟩) hHeld ?_
        rotate_left
        · (intro w hSw; (try dsimp only at hSw); go_simp; first | done | with_reducible rfl)
        (try simp only [Act.put, List.getElem_toArray, List.getElem_cons_zero, List.getElem_cons_succ, List.setIfInBounds_toArray, List.set_cons_zero, List.set_cons_succ])
        refine wpAnyH_take (i := 23) (v := ?_) rfl (by kernel_rfl) (by kernel_rfl) (by kernel_rfl) (fun _ _ _ h => h) (Or.inl ⟨by first | (with_reducible rfl) | kernel_rfl, ?_⟩) hHeld ?_
        rotate_left
        · (intro w hSw; (try dsimp only at hSw); go_simp; first | done | with_reducible rfl)
        (try simp only [Act.put, List.getElem_toArray, List.getElem_cons_zero, List.getElem_cons_succ, List.setIfInBounds_toArray, List.set_cons_zero, List.set_cons_succ])
        refine wpAnyH_take (i := 24) (v := ?_) rfl (by kernel_rfl) (by kernel_rfl) (by kernel_rfl) (fun _ _ _ h => h) (Or.inl ⟨by first | (with_reducible rfl) | kernel_rfl, ?_⟩) hHeld ?_
        rotate_left
        · (intro w hSw; (try dsimp only at hSw); go_simp; first | done | with_reducible rfl)
        (try simp only [Act.put, List.getElem_toArray, List.getElem_cons_zero, List.getElem_cons_succ, List.setIfInBounds_toArray, List.set_cons_zero, List.set_cons_succ])
        refine wpAnyH_take (i := 26) (v := ?_) rfl (by kernel_rfl) (by kernel_rfl) (by kernel_rfl) (fun _ _ _ h => h) (Or.inl ⟨by first | (with_reducible rfl) | kernel_rfl, ?_⟩) hHeld ?_
        rotate_left
        · (intro w hSw; (try dsimp only at hSw); go_simp; first | done | with_reducible rfl)
        (try simp only [Act.put, List.getElem_toArray, List.getElem_cons_zero, List.getElem_cons_succ, List.setIfInBounds_toArray, List.set_cons_zero, List.set_cons_succ])
        refine wpAnyH_take (i := 27) (v := ?_) rfl (by kernel_rfl) (by kernel_rfl) (by kernel_rfl) (fun _ _ _ h => h) (Or.inl ⟨by first | (with_reducible rfl) | kernel_rfl, ?_⟩) hHeld ?_
        rotate_left
        · (intro w hSw; (try dsimp only at hSw); go_simp; first | done | with_reducible rfl)
        (try simp only [Act.put, List.getElem_toArray, List.getElem_cons_zero, List.getElem_cons_succ, List.setIfInBounds_toArray, List.set_cons_zero, List.set_cons_succ])
        refine wpAnyH_take (i := 28) (v := ?_) rfl (by kernel_rfl) (by kernel_rfl) (by kernel_rfl) (fun _ _ _ h => h) (Or.inl ⟨by first | (with_reducible rfl) | kernel_rfl, ?_⟩) hHeld ?_
        rotate_left
        · (intro w hSw; (try dsimp only at hSw); go_simp; first | done | with_reducible rfl)
        (try simp only [Act.put, List.getElem_toArray, List.getElem_cons_zero, List.getElem_cons_succ, List.setIfInBounds_toArray, List.set_cons_zero, List.set_cons_succ])
        refine wpAnyH_take (i := 29) (v := ?_) rfl (by kernel_rfl) (by kernel_rfl) (by kernel_rfl) (fun _ _ _ h => h) (Or.inl ⟨by first | (with_reducible rfl) | kernel_rfl, ?_⟩) hHeld ?_
        rotate_left
        · (intro w hSw; (try dsimp only at hSw); go_simp; first | done | with_reducible rfl)
        (try simp only [Act.put, List.getElem_toArray, List.getElem_cons_zero, List.getElem_cons_succ, List.setIfInBounds_toArray, List.set_cons_zero, List.set_cons_succ])
        refine wpAnyH_ready (rs := [25]) (by kernel_rfl) (by simp) ?_
        refine AllReadyH.cons rfl (fun K hK => ?_) AllReadyH.nil
        go_simp
        refine (redone_live HT6.out.live).mono ?_
        rintro e w6b ⟨rfl, rfl⟩
        refine hK.out _ _ (hHeld) (fun hHeld => ?_)
        clear hK K
        (try simp only [Act.put, List.getElem_toArray, List.getElem_cons_zero, List.getElem_cons_succ, List.setIfInBounds_toArray, List.set_cons_zero, List.set_cons_succ])
        refine wpAnyH_take (i := 30) (v := ?_) rfl (by kernel_rfl) (by kernel_rfl) (by kernel_rfl) (fun _ _ _ h => h) (Or.inl ⟨by first | (with_reducible rfl) | kernel_rfl, ?_⟩) hHeld ?_
        rotate_left
        · (intro w hSw; (try dsimp only at hSw); go_simp; first | done | with_reducible rfl)
        (try simp only [Act.put, List.getElem_toArray, List.getElem_cons_zero, List.getElem_cons_succ, List.setIfInBounds_toArray, List.set_cons_zero, List.set_cons_succ])
        refine wpAnyH_take (i := 31) (v := ?_) rfl (by kernel_rfl) (by kernel_rfl) (by kernel_rfl) (fun _ _ _ h => h) (Or.inl ⟨by first | (with_reducible rfl) | kernel_rfl, ?_⟩) hHeld ?_
        rotate_left
        · (intro w hSw; (try dsimp only at hSw); go_simp; first | done | with_reducible rfl)
        (try simp only [Act.put, List.getElem_toArray, List.getElem_cons_zero, List.getElem_cons_succ, List.setIfInBounds_toArray, List.set_cons_zero, List.set_cons_succ])
        refine wpAnyH_take (i := 32) (v := ?_) rfl (by kernel_rfl) (by kernel_rfl) (by kernel_rfl) (fun _ _ _ h => h) (Or.inl ⟨by first | (with_reducible rfl) | kernel_rfl, ?_⟩) hHeld ?_
        rotate_left
        · (intro w hSw; (try dsimp only at hSw); go_simp; first | done | with_reducible rfl)
        (try simp only [Act.put, List.getElem_toArray, List.getElem_cons_zero, List.getElem_cons_succ, List.setIfInBounds_toArray, List.set_cons_zero, List.set_cons_succ])
        refine wpAnyH_take (i := 33) (v := ?_) rfl (by kernel_rfl) (by kernel_rfl) (by kernel_rfl) (fun _ _ _ h => h) (Or.inl ⟨by first | (with_reducible rfl) | kernel_rfl, ?_⟩) hHeld ?_
        rotate_left
        · (intro w hSw; (try dsimp only at hSw); go_simp; first | done | with_reducible rfl)
        (try simp only [Act.put, List.getElem_toArray, List.getElem_cons_zero, List.getElem_cons_succ, List.setIfInBounds_toArray, List.set_cons_zero, List.set_cons_succ])
        refine wpAnyH_take (i := 35) (v := ?_) rfl (by kernel_rfl) (by kernel_rfl) (by kernel_rfl) (fun _ _ _ h => h) (Or.inl ⟨by first | (with_reducible rfl) | kernel_rfl, ?_⟩) hHeld ?_
        rotate_left
        · (intro w hSw; (try dsimp only at hSw); go_simp; first | done | with_reducible rfl)
        (try simp only [Act.put, List.getElem_toArray, List.getElem_cons_zero, List.getElem_cons_succ, List.setIfInBounds_toArray, List.set_cons_zero, List.set_cons_succ])
        refine wpAnyH_ready (rs := [34]) (by kernel_rfl) (by simp) ?_
        refine AllReadyH.cons rfl (fun K hK => ?_) AllReadyH.nil
        go_simp
        refine (nodes_live HT6.out.live).mono ?_
        rintro e w7 ⟨A7, c7, rfl, hn7, hb7⟩
        have HT7 := Lib.hid (HT6.out.then_ hb7)
        have HN7 := Lib.hid hn7
        have HB7 := Lib.hid HT7.out.live.below
        have HD7 := Lib.hid (HD6.out.trans (hb7.mono HD6.out.size))
        clear hb7 hn7
        refine hK.out _ _ (⟨HC.out _ HB7.out, HRc.out _ HD7.out⟩) (fun hHeld => ?_)
        clear hK K
        (try simp only [Act.put, List.getElem_toArray, List.getElem_cons_zero, List.getElem_cons_succ, List.setIfInBounds_toArray, List.set_cons_zero, List.set_cons_succ])
        refine wpAnyH_ready (rs := [36]) (by kernel_rfl) (by simp) ?_
        refine AllReadyH.cons rfl (fun K hK => ?_) AllReadyH.nil
        go_simp
        refine (rnodes_st _ _ _ _ _ _ HT7.out.ref).mono ?_
        rintro e w8 ⟨A8, c8, rfl, hn8, hb8⟩
        have HT8 := Lib.hid (HT7.out.then_ hb8)
        have HN8 := Lib.hid hn8
        have HN78 := Lib.hid (HN7.out.below hb8)
        have HB8 := Lib.hid HT8.out.live.below
        have HD8 := Lib.hid (HD7.out.trans (hb8.mono HD7.out.size))
        clear hb8 hn8
        refine hK.out _ _ (⟨HC.out _ HB8.out, HRc.out _ HD8.out⟩) (fun hHeld => ?_)
        clear hK K
        (try simp only [Act.put, List.getElem_toArray, List.getElem_cons_zero, List.getElem_cons_succ, List.setIfInBounds_toArray, List.set_cons_zero, List.set_cons_succ])
        refine wpAnyH_ready (rs := [37]) (by kernel_rfl) (by simp) ?_
        refine AllReadyH.cons rfl (fun K hK => ?_) AllReadyH.nil
        go_simp
        refine (same_any A7 A8 _ c7 c8 (foldN L') _ HN78.out HN8.out).mono ?_
        rintro e w9 ⟨rfl, hb9⟩
        have HT9 := Lib.hid (HT8.out.then_ hb9)
        have HB9 := Lib.hid HT9.out.live.below
        have HD9 := Lib.hid (HD8.out.trans (hb9.mono HD8.out.size))
        clear hb9
        refine hK.out _ _ (⟨HC.out _ HB9.out, HRc.out _ HD9.out⟩) (fun hHeld => ?_)
        clear hK K
        (try simp only [Act.put, List.getElem_toArray, List.getElem_cons_zero, List.getElem_cons_succ, List.setIfInBounds_toArray, List.set_cons_zero, List.set_cons_succ])
        refine wpAnyH_take (i := 38) (v := ?_) rfl (by kernel_rfl) (by kernel_rfl) (by kernel_rfl) (fun _ _ _ h => h) (Or.inl ⟨by first | (with_reducible rfl) | kernel_rfl, ?_⟩) hHeld ?_
        rotate_left
        · (intro w hSw; (try dsimp only at hSw); go_simp; first | done | with_reducible rfl)
        (try simp only [Act.put, List.getElem_toArray, List.getElem_cons_zero, List.getElem_cons_succ, List.setIfInBounds_toArray, List.set_cons_zero, List.set_cons_succ])
        refine wpAnyH_take (i := 39) (v := ?_) rfl (by kernel_rfl) (by kernel_rfl) (by kernel_rfl) (fun _ _ _ h => h) (Or.inl ⟨by first | (with_reducible rfl) | kernel_rfl, ?_⟩) hHeld ?_
        rotate_left
        · (intro w hSw; (try dsimp only at hSw); go_simp; first | done | with_reducible rfl)
        (try simp only [Act.put, List.getElem_toArray, List.getElem_cons_zero, List.getElem_cons_succ, List.setIfInBounds_toArray, List.set_cons_zero, List.set_cons_succ])
        refine wpAnyH_done (by kernel_rfl) ?_ _
        all_goals (
          go_wp2_with fail
          exact ⟨⟨k + 1, _, _, _, _, by omega, by go_num, HT9⟩, by simp [intOf]; omega⟩)
      · have hki : ¬ (k : Int) < (n : Int) := by omega
        have HB2 := Lib.hid HTr.out.live.below
        go_wp2_with fail
        refine (AW.out _ HB2.out).mono ?_
        rintro e w9 ⟨rfl, hb9⟩
        have HB9 := Lib.hid hb9
        clear hb9
        go_wp2_with fail
        go_ret
        exact ⟨rfl, HB9.out⟩
end Go.Proofs.Ytaglomhmnoldlaa
