/- Insert: an operation is added, wherever it stands. -/
import Derived.Test.YtaglomhmnoldlaaMv
namespace Go.Proofs.Ytaglomhmnoldlaa
set_option linter.unusedSimpArgs false
set_option linter.unusedVariables false
open Go.RowKit
attribute [local go_sem] bs_size bs_getElem bs_list bs_append

theorem search_log (s : St) (A : Option Addr) (c : Nat) (L : List TOp) (w : World) (h : Rds w A L.length c (recsOf L)) (hn : L.length ≤ 1000000) (hs : Sorted L) :
    Calls Try.prog 23 #[.slice A L.length c, sv s, .func (.func 24) #[] #[]] w fun e w' => e = .returned (.tuple #[.int .i64 (atO L s), .bool (hasO L s)]) ∧ Below w.heap.size w w' := by
  have hop : ∀ j (hj : j < (recsOf L).length), (recsOf L)[j].op.st = (L[j]'(by rw [recsOf_len] at hj; exact hj)).st := fun j hj => by
    rw [recsOf_at L j (by rw [recsOf_len] at hj; exact hj)]
    rfl
  refine (search_any s A L.length c (recsOf L) w h hn ?_).mono ?_
  · intro i j hi hj hij hc
    rw [hop] at hc ⊢
    rw [cmpS_neg] at hc ⊢
    rcases Nat.lt_or_ge i j with hlt | hge
    · exact less_trans (hs.at_ _ _ hlt) hc
    · obtain rfl : i = j := by omega
      exact hc
  · rintro e w' ⟨a, t, ha, hlo, hhi, ht, rfl, hb⟩
    rw [recsOf_len] at ha
    have hat : atO L s = a := takeWhile_len _ L a ha (fun j hj hlt => by
      have := hlo j (by rw [recsOf_len]; exact hj) hlt
      rw [hop, cmpS_neg] at this
      exact this) (fun j hj hle => by
      have := hhi j (by rw [recsOf_len]; exact hj) hle
      rw [hop, cmpS_neg] at this
      simpa using this)
    have hth : t = hasO L s := by
      rw [ht]
      unfold hasO
      rw [hat]
      apply decide_eq_decide.2
      constructor
      · rintro ⟨h1, h2⟩
        refine ⟨by rw [recsOf_len] at h1; exact h1, ?_⟩
        rw [hop, cmpS_zero] at h2
        exact h2
      · rintro ⟨h1, h2⟩
        refine ⟨by rw [recsOf_len]; exact h1, ?_⟩
        rw [hop, cmpS_zero]
        exact h2
    refine ⟨by rw [hat, ← hth], hb⟩

theorem Stt.grownO {w w' : World} {p m : Nat} {v : Value} {r : Int} {es : List Nd} {row : Option Nat} (h : Stt w p m v r es) (k : w.grownBy w' row) (hp : some p ≠ row) (hm : some m ≠ row) : Stt w' p m v r es := ⟨h.blk.grown k hp, h.map.grown k hm⟩
theorem Stt.setR {w : World} {p m : Nat} {v : Value} {r : Int} {es : List Nd} (h : Stt w p m v r es) (r' : Int) : Stt (w.setCell ⟨p, 2, none⟩ (.int .i64 r')) p m v r' es := by
  have h1 := Blk.set_ h.blk 2 (.int .i64 r')
  exact ⟨by simpa using h1, h.map.grown (gb_setCell (gb_refl w _) (.inl rfl) _) (fun e => h.map.ne_blk h.blk (Option.some.inj e))⟩
theorem Stt.setV {w : World} {p m : Nat} {v : Value} {r : Int} {es : List Nd} (h : Stt w p m v r es) (v' : Value) : Stt (w.setCell ⟨p, 0, none⟩ v') p m v' r es := by
  have h1 := Blk.set_ h.blk 0 v'
  exact ⟨by simpa using h1, h.map.grown (gb_setCell (gb_refl w _) (.inl rfl) _) (fun e => h.map.ne_blk h.blk (Option.some.inj e))⟩
theorem OwnC.apart {w : World} {B size n : Nat} {v : Value} {xs : List Value} (h : OwnC w B size v n xs) {g : Nat} (hne : v.ownBlock ≠ some g) (u : Value) (i : Nat) : OwnC (w.setCell ⟨g, i, none⟩ u) B size v n xs :=
  h.kept (gb_setCell (gb_refl w g) (.inl rfl) u) (.inr hne)
theorem St3.setR {w : World} {B p m : Nat} {v : Value} {r : Int} {R : List Rec} {es : List Nd} (h : St3 w B p m v r R es) (r' : Int) : St3 (w.setCell ⟨p, 2, none⟩ (.int .i64 r')) B p m v r' R es :=
  ⟨h.stt.setR r', OwnC.apart h.log h.nep _ _, h.nep, h.nem⟩
def rec0 (x : TOp) : Rec := ⟨x, nd0, false, false⟩
theorem rcs_one (R : List Rec) : ∀ u ∈ rcs R, u.oneCell' = true := by
  intro u hu
  obtain ⟨d, _, hd⟩ := List.mem_flatMap.1 hu
  simp only [rc, oc, nc, List.cons_append, List.nil_append, List.mem_cons, List.not_mem_nil, or_false] at hd
  rcases hd with rfl | rfl | rfl | rfl | rfl | rfl | rfl | rfl | rfl | rfl | rfl | rfl | rfl | rfl | rfl | rfl | rfl | rfl | rfl | rfl <;> rfl
theorem rcs_append (a b : List Rec) : rcs (a ++ b) = rcs a ++ rcs b := by simp [rcs]
theorem rcs_take (R : List Rec) (k : Nat) (hk : k ≤ R.length) : (rcs R).take (k * 20) = rcs (R.take k) := by
  have h : rcs R = rcs (R.take k) ++ rcs (R.drop k) := by rw [← rcs_append, List.take_append_drop]
  rw [h, List.take_left' (by rw [rcs_len, List.length_take]; congr 1; omega)]
theorem rcs_drop (R : List Rec) (k : Nat) (hk : k ≤ R.length) : (rcs R).drop (k * 20) = rcs (R.drop k) := by
  have h : rcs R = rcs (R.take k) ++ rcs (R.drop k) := by rw [← rcs_append, List.take_append_drop]
  rw [h, List.drop_left' (by rw [rcs_len, List.length_take]; congr 1; omega)]
/-- behind slices.Insert -/
theorem Log.inserted {w w' : World} {B k : Nat} {v : Value} {R : List Rec} {d : Rec} {e : Ending} (hk : k ≤ R.length) (h : Inserted28 B w v R.length k (rcs R) (rc d) e w') :
    ∃ A n c, n = R.length + 1 ∧ e = .returned (.slice A n c) ∧ Log w' B (.slice A n c) (R.take k ++ d :: R.drop k) ∧ w.grownBy w' v.ownBlock ∧ ((Value.slice A n c).ownBlock = v.ownBlock ∨ (Value.slice A n c).ownBlock = some w.heap.size) := by
  obtain ⟨v', rfl, ho, hg, hat⟩ := h
  obtain ⟨A, c, rfl⟩ := ho.isSlice
  refine ⟨A, _, c, rfl, rfl, ?_, hg, hat⟩
  have hl : (R.take k ++ d :: R.drop k).length = R.length + 1 := by simp; omega
  have he : rcs (R.take k ++ d :: R.drop k) = (rcs R).take (k * 20) ++ (rc d ++ (rcs R).drop (k * 20)) := by
    rw [rcs_append, rcs_take R k hk, rcs_drop R k hk]
    rfl
  show OwnC w' B 20 _ _ _
  rw [hl, he]
  exact ho

theorem recsFrom_op (L : List TOp) : ∀ es, (recsFrom es L).map (·.op) = L := by
  induction L with
  | nil => intro es; rfl
  | cons x L ih => intro es; simp [recsFrom, ih]; rfl
theorem recsOf_op (L : List TOp) : (recsOf L).map (·.op) = L := recsFrom_op L []
theorem recsFrom_append (a b : List TOp) : ∀ es, recsFrom es (a ++ b) = recsFrom es a ++ recsFrom (a.foldl doE es) b := by
  induction a with
  | nil => intro es; rfl
  | cons x a ih => intro es; simp [recsFrom, ih]
theorem recsOf_snoc (L : List TOp) (x : TOp) : recsOf (L ++ [x]) = recsOf L ++ [doR (foldE L) x] := by
  unfold recsOf
  rw [recsFrom_append]
  rfl
/-- a log whose first records are done -/
structure Half (R : List Rec) (L : List TOp) (j : Nat) : Prop where
  op : R.map (·.op) = L
  take : R.take j = recsOf (L.take j)
theorem Half.start (L : List TOp) (x : TOp) : Half ((recsOf L).take (atO L x.st) ++ rec0 x :: (recsOf L).drop (atO L x.st)) (addO L x) (atO L x.st) := by
  have hle := atO_le L x.st
  constructor
  · unfold addO
    simp only [List.map_append, List.map_cons, List.map_take, List.map_drop, recsOf_op]
    rfl
  · rw [addO_take, ← recsOf_take, List.take_append_of_le_length (by rw [List.length_take, recsOf_len]; omega), List.take_take, Nat.min_self]
theorem Half.len {R : List Rec} {L : List TOp} {j : Nat} (h : Half R L j) : R.length = L.length := by rw [← h.op, List.length_map]
theorem Half.at_ {R : List Rec} {L : List TOp} {j : Nat} (h : Half R L j) {i : Nat} (hi : i < R.length) : R[i].op = L[i]'(by rw [← h.len]; exact hi) := by
  have := h.op
  subst this
  simp
theorem Half.next {R : List Rec} {L : List TOp} {j : Nat} (h : Half R L j) (hj : j < L.length) : Half (R.set j (doR (foldE (L.take j)) L[j])) L (j + 1) := by
  have hr := h.len
  constructor
  · rw [List.map_set, h.op]
    show L.set j L[j] = L
    simp
  · rw [List.take_succ_eq_append_getElem (by rw [List.length_set]; omega), List.getElem_set_self, List.take_set_of_le (Nat.le_refl _), h.take, List.take_succ_eq_append_getElem hj, recsOf_snoc]
theorem Half.all {R : List Rec} {L : List TOp} (h : Half R L L.length) : R = recsOf L := by
  have := h.take
  rw [List.take_length, ← h.len, List.take_length] at this
  exact this
theorem St3.did_ {w w' : World} {B g c p m n : Nat} {r : Int} {R : List Rec} {es es' : List Nd} {k : Nat} {d : Rec} (hn : R.length = n) (h : St3 w B p m (.slice (some ⟨g, 0, none⟩) n c) r R es) (hk : k < R.length) (hd : DidR w w' g (k * 20) p m (.slice (some ⟨g, 0, none⟩) n c) r d es') :
    St3 w' B p m (.slice (some ⟨g, 0, none⟩) n c) r (R.set k d) es' := by
  subst hn
  exact h.did hk hd
/-- what Insert does -/
def Insd (w : World) (B p m : Nat) (v : Value) (r : Int) (L : List TOp) (x : TOp) (e : Ending) (w' : World) : Prop :=
  ∃ v' r', e = .returned (.int .i64 (codeO L x)) ∧ Mov w' B p m v' r' (insO L x) ∧ KeepV w w' p m v ∧ (∀ g, v'.ownBlock = some g → v.ownBlock = some g ∨ w.heap.size ≤ g) ∧
    (codeO L x = 0 → r' = L.length - atO L x.st) ∧ (codeO L x ≠ 0 → r' = r)

set_option maxRecDepth 100000 in
set_option maxHeartbeats 3200000 in
theorem insert_nil (x : TOp) (w : World) : Calls Try.prog 12 #[.pointer none, ov x] w fun e w' => e = .returned (.int .i64 2) ∧ Below w.heap.size w w' := by
  have HB := Lib.hid ((Below.refl w.heap.size w).alloc (Nat.le_refl _) (.cells (oc x).toArray 31))
  unfold oc at HB
  unfold ov
  go_enter Try.func12, Try.ntmps12
  go_wp2_with fail
  go_ret
  exact ⟨rfl, HB.out⟩

set_option maxRecDepth 100000 in
set_option maxHeartbeats 3200000 in
theorem insert_st (x : TOp) (B p m : Nat) (v : Value) (r : Int) (L : List TOp) (w : World) (h : Mov w B p m v r L) (hB : B ≤ w.heap.size) :
    Calls Try.prog 12 #[.pointer (some ⟨p, 0, none⟩), ov x] w (Insd w B p m v r L x) := by
  have hb1 : Below w.heap.size w (w.alloc (.cells (oc x).toArray 31)) := (Below.refl _ w).alloc (Nat.le_refl _) _
  have hBk := Blk.new w 31 (oc x).toArray
  obtain ⟨w1, hw1⟩ : ∃ w1, w1 = w.alloc (.cells (oc x).toArray 31) := ⟨_, rfl⟩
  rw [← hw1] at hb1 hBk
  have h1 := h.below hb1
  have HW := Lib.hid hw1
  have HB1 := Lib.hid hb1
  have HBk := Lib.hid hBk
  have HM := Lib.hid h
  have HM1 := Lib.hid h1
  have HBw := Lib.hid hB
  have x0 := hBk.cell 0
  have x1 := hBk.cell 1
  unfold oc at HW x0 x1
  simp only [List.getElem?_toArray, List.getElem?_cons_zero, List.getElem?_cons_succ] at x0 x1
  clear hw1 hb1 hBk h h1 hB
  unfold ov
  generalize hQ : Insd w B p m v r L x = Q
  have HQ := Lib.hid hQ
  clear hQ
  go_enter Try.func12, Try.ntmps12
  go_wp2_with fail
  rw [← HW.out]
  cases hr : rightS x.st with
  | false =>
    have HR := Lib.hid hr
    go_wp2_with (go_at_call 14; refine (right_st _ _).mono ?_; rintro e w2 ⟨rfl, hb2⟩; rw [HR.out]; have HB2 := Lib.hid hb2; clear hb2)
    rw [← HQ.out]
    have hc : codeO L x = 20 := by unfold codeO; rw [HR.out]; rfl
    refine ⟨v, r, by rw [hc]; rfl, ?_, ?_, fun g hg => .inl hg, fun h0 => by omega, fun _ => rfl⟩
    · have : insO L x = L := by unfold insO; rw [if_neg (by omega)]
      rw [this]
      exact HM1.out.below HB2.out
    · exact (KeepV.ofBelow HB1.out p m v).below HB2.out
  | true =>
    have HR := Lib.hid hr
    go_upto_region 6 with (go_at_call 14; refine (right_st _ _).mono ?_; rintro e w2 ⟨rfl, hb2⟩; rw [HR.out]; have HB2 := Lib.hid hb2; clear hb2)
    have HM2 := Lib.hid (HM1.out.below HB2.out)
    have c0 := HM2.out.s3.stt.c0
    obtain ⟨A, c, rfl, hrd⟩ := HM2.out.s3.log.rds
    rw [recsOf_len] at hrd c0
    have k0 := fun u : After w2 => u.cell c0
    have k1 := fun u : After w2 => u.cell (cell_below HB2.out HBk.out.lt x0)
    have k2 := fun u : After w2 => u.cell (cell_below HB2.out HBk.out.lt x1)
    obtain ⟨at_, hat⟩ : ∃ a, a = atO L x.st := ⟨_, rfl⟩
    obtain ⟨hs_, hhs⟩ : ∃ b, b = hasO L x.st := ⟨_, rfl⟩
    have hsrch : ∀ u : After w2, Calls Try.prog 23 #[.slice A L.length c, sv x.st, .func (.func 24) #[] #[]] u.wd fun e w'' => e = .returned (.tuple #[.int .i64 at_, .bool hs_]) ∧ ∃ y : After w2, w'' = y.wd := fun u => by
      rw [hat, hhs]
      exact after_call (search_log x.st A c L u.wd (hrd.below u.below) (by have := HM.out.len; omega) HM.out.sorted)
    have HS := Lib.hid hsrch
    have HAt := Lib.hid hat
    have HHs := Lib.hid hhs
    clear hsrch hrd hat hhs c0
    refine wp_region_after (by kernel_rfl) (by kernel_rfl) ?_
    repeat (go_big_quiet_step (exact HS.out _))
    refine wpQuiet_nil ?_
    rintro _ ⟨u, rfl⟩
    have HM3 := Lib.hid (HM2.out.below u.below)
    have HB3 := Lib.hid (HB2.out.trans (u.below.mono HB2.out.size))
    clear k0 k1 k2 HS x0 x1 hr
    obtain ⟨w3, hw3⟩ : ∃ w3, w3 = u.wd := ⟨_, rfl⟩
    rw [← hw3] at HM3 HB3 ⊢
    clear hw3 u
    cases hs_ with
    | true =>
      go_wp2_with fail
      rw [← HQ.out]
      have hc : codeO L x = 24 := by unfold codeO; rw [HR.out, ← HHs.out]; rfl
      refine ⟨_, r, by rw [hc]; rfl, ?_, ?_, fun g hg => .inl hg, fun h0 => by omega, fun _ => rfl⟩
      · have : insO L x = L := by unfold insO; rw [if_neg (by omega)]
        rw [this]
        exact HM3.out
      · exact (KeepV.ofBelow HB1.out p m _).below HB3.out
    | false =>
      have c0 := HM3.out.s3.stt.c0
      rw [recsOf_len] at c0
      by_cases hbig : L.length ≥ 400
      · have hd : decide ((L.length : Int) ≥ 400) = true := by simp; omega
        go_wp2_with fail
        rw [← HQ.out]
        have hc : codeO L x = 40 := by unfold codeO; rw [HR.out, ← HHs.out]; simp [hbig]
        refine ⟨_, r, by rw [hc]; rfl, ?_, ?_, fun g hg => .inl hg, fun h0 => by omega, fun _ => rfl⟩
        · have : insO L x = L := by unfold insO; rw [if_neg (by omega)]
          rw [this]
          exact HM3.out
        · exact (KeepV.ofBelow HB1.out p m _).below HB3.out
      · have hd : decide ((L.length : Int) ≥ 400) = false := by simp; omega
        go_wp2_with fail
        have HBk3 := Lib.hid (HBk.out.below HB3.out HBk.out.lt)
        have hal : at_ ≤ L.length := by rw [HAt.out]; exact atO_le _ _
        have h0 : 0 ≤ at_ := Nat.zero_le _
        have HK3 := Lib.hid ((KeepV.ofBelow HB1.out p m (.slice A L.length c)).below HB3.out)
        have hs3 := HM3.out.s3
        rw [recsOf_len] at hs3
        have HS3 := Lib.hid hs3
        clear hd c0 hs3
        go_loopw [8] (fun i wr => ∃ k : Nat, at_ ≤ k ∧ k ≤ L.length ∧ i = .int .i64 ((k : Int) - 1) ∧ St3 wr B p m (.slice A L.length c) r (recsOf L) (foldE (L.take k)) ∧ KeepV w wr p m (.slice A L.length c) ∧ Blk wr w.heap.size 31 (oc x).toArray) (fun i _ => (intOf i + 1).toNat)
        case atStart => exact ⟨L.length, hal, Nat.le_refl _, rfl, by rw [List.take_length]; exact HS3.out, HK3.out, HBk3.out⟩
        case round =>
          obtain ⟨k, hk1, hk2, rfl, hS, hK, hX⟩ := hrel
          rcases Nat.lt_or_ge at_ k with hlt | hge
          · obtain ⟨j, rfl⟩ : ∃ j, k = j + 1 := ⟨k - 1, by omega⟩
            have ej : ((j + 1 : Nat) : Int) - 1 = (j : Int) := by omega
            rw [ej]
            clear ej
            have hj : j < L.length := by omega
            have hjr : j < (recsOf L).length := by rw [recsOf_len]; exact hj
            obtain ⟨g, c2, e2, hown, hnc, hcm, hrec, hfr⟩ := Log.at_ hS.log hjr
            rw [recsOf_len] at e2 hnc
            cases e2
            rw [recsOf_at L j hj] at hrec
            have c0 := hS.stt.c0
            have hU := undo_st _ g (j * 20) p m _ r _ wr hrec (fun hh => findN_id hh) hS.stt
            rw [foldE_take hj, undo_do] at hU
            have HU := Lib.hid hU
            have HS := Lib.hid hS
            have HK := Lib.hid hK
            have HX := Lib.hid hX
            have hge2 : (j : Int) ≥ (at_ : Int) := by omega
            have hlt2 : (j : Int) < (L.length : Int) := by omega
            clear hS hK hX hU hrec hfr hown
            go_wp2_with (go_at_call 27; refine HU.out.mono ?_; rintro e w4 ⟨rfl, hs4, hg4⟩; have H4 := Lib.hid (HS.out.undo hs4 hg4); have HG := Lib.hid hg4; clear hs4 hg4)
            refine ⟨⟨j, by omega, by omega, rfl, H4.out, HK.out.grown HG.out (.inr (.inl rfl)), HX.out.grown HG.out (fun e => HS.out.stt.map.ne_blk HX.out (Option.some.inj e).symm)⟩, ?_⟩
            simp [intOf]
          · obtain rfl : k = at_ := by omega
            have hd : decide ((k : Int) - 1 ≥ (k : Int)) = false := by simp; omega
            have HS := Lib.hid hS
            have HK := Lib.hid hK
            have HX := Lib.hid hX
            clear hS hK hX
            have c0 := HS.out.stt.c0
            have c2 := HS.out.stt.c2
            have f2 := HS.out.stt.blk.frozen 2
            have H5 := Lib.hid (HS.out.setR ((L.length : Int) - (k : Int)))
            have K5 := Lib.hid (HK.out.grown (gb_setCell (gb_refl wr p) (p := ⟨p, 2, none⟩) (.inl rfl) (.int .i64 ((L.length : Int) - (k : Int)))) (.inl rfl))
            have hnp : w.heap.size ≠ p := fun e => by
              have h1 := HS.out.stt.blk
              have h2 := HX.out
              rw [e] at h2
              unfold Blk at h1 h2
              rw [h1] at h2
              injection h2 with h2
              injection h2 with h3 h4 h5
              cases h4
            have HNp := Lib.hid hnp
            have hxo : (Value.slice A L.length c).ownBlock ≠ some w.heap.size := fun e => by
              have := (OwnC.ge HM.out.s3.log w.heap.size (by rw [recsOf_len]; exact e)).2
              omega
            have HXo := Lib.hid hxo
            have X5 := Lib.hid (Blk.far HX.out (p := ⟨p, 2, none⟩) hnp (.int .i64 ((L.length : Int) - (k : Int))))
            clear hnp hxo
            go_upto_region 16 with (fail)
            clear c0 c2 f2
            obtain ⟨w5, hw5⟩ : ∃ w5, w5 = wr.setCell ⟨p, 2, none⟩ (.int .i64 ((L.length : Int) - (k : Int))) := ⟨_, rfl⟩
            rw [← hw5] at H5 K5 X5 ⊢
            clear hw5
            have c0 := H5.out.stt.c0
            obtain ⟨x0, x1, x2, x3, x4, x5, x6, x7, x8, x9, x10⟩ := blk11 X5.out
            have hob : ∀ gg, (Value.slice A L.length c).ownBlock = some gg → gg < w5.heap.size := fun gg e => (OwnC.ge H5.out.log gg e).2
            obtain ⟨w6, hw6⟩ : ∃ w6, w6 = (w5.alloc (.cells #[.int .i64 x.st.1, .int .i64 x.st.2, .int .i64 x.seq, .int .i64 x.kind, .int .i64 x.node.1, .int .i64 x.node.2, .bool x.dir, .int .i64 x.par.1, .int .i64 x.par.2, .string (bs x.nm), .string (bs x.mf), .int .i64 0, .int .i64 0, .bool false, .int .i64 0, .int .i64 0, .string ⟨#[]⟩, .string ⟨#[]⟩, .bool false, .bool false] 58)).drew := ⟨_, rfl⟩
            have hb56 : Below w5.heap.size w5 w6 := by rw [hw6]; exact ((Below.refl _ w5).alloc (Nat.le_refl _) _).drew
            have hB6 : Blk w6 w5.heap.size 58 (rc (rec0 x)).toArray := by rw [hw6]; exact (Blk.new w5 58 _).drew
            have hI := insert28_any B (.slice A L.length c) L.length k (rcs (recsOf L)) (rc (rec0 x)) w5.heap.size 1 w6 (by have := OwnC.below H5.out.log hb56; rw [recsOf_len] at this; exact this) (by omega) (by omega) rfl (rcs_one _) (fun u hu => rcs_one [rec0 x] u (by simpa [rcs] using hu)) hB6 (fun e => by have := hob _ e; omega) (by have := HBw.out; have := K5.out.size; have := hb56.size; omega)
            rw [show L.length = (recsOf L).length from (recsOf_len L).symm] at hI
            have hI2 := hI.mono (fun e w7 hh => Log.inserted (by rw [recsOf_len]; exact hal) hh)
            rw [recsOf_len] at hI2
            have HI := Lib.hid hI2
            have HB56 := Lib.hid hb56
            have HW6 := Lib.hid hw6
            clear hw6 hb56 hB6 hI hI2 hob
            have X6 := Lib.hid (X5.out.below HB56.out X5.out.lt)
            rw [HW6.out] at X6
            have c06 : (w5.alloc (.cells #[.int .i64 x.st.1, .int .i64 x.st.2, .int .i64 x.seq, .int .i64 x.kind, .int .i64 x.node.1, .int .i64 x.node.2, .bool x.dir, .int .i64 x.par.1, .int .i64 x.par.2, .string (bs x.nm), .string (bs x.mf), .int .i64 0, .int .i64 0, .bool false, .int .i64 0, .int .i64 0, .string ⟨#[]⟩, .string ⟨#[]⟩, .bool false, .bool false] 58)).cell? ⟨p, 0, none⟩ = some (.slice A L.length c) := cell?_alloc_old c0 _
            refine wp_region_held_drew (S := (fun w' => w'.cell? ⟨w.heap.size, 0, none⟩ = some (.int .i64 x.st.1) ∧ w'.cell? ⟨w.heap.size, 1, none⟩ = some (.int .i64 x.st.2) ∧ w'.cell? ⟨w.heap.size, 2, none⟩ = some (.int .i64 x.seq) ∧ w'.cell? ⟨w.heap.size, 3, none⟩ = some (.int .i64 x.kind) ∧ w'.cell? ⟨w.heap.size, 4, none⟩ = some (.int .i64 x.node.1) ∧ w'.cell? ⟨w.heap.size, 5, none⟩ = some (.int .i64 x.node.2) ∧ w'.cell? ⟨w.heap.size, 6, none⟩ = some (.bool x.dir) ∧ w'.cell? ⟨w.heap.size, 7, none⟩ = some (.int .i64 x.par.1) ∧ w'.cell? ⟨w.heap.size, 8, none⟩ = some (.int .i64 x.par.2) ∧ w'.cell? ⟨w.heap.size, 9, none⟩ = some (.string (bs x.nm)) ∧ w'.cell? ⟨w.heap.size, 10, none⟩ = some (.string (bs x.mf)))) (by kernel_rfl) (blk11 (Blk.drew X5.out)) (fun hHeld => ?_)
            refine wpAnyH_take (i := 0) (v := ?_) rfl (by kernel_rfl) (by kernel_rfl) (by kernel_rfl) (fun _ _ _ h => h) (Or.inl ⟨by first | (with_reducible rfl) | kernel_rfl, ?_⟩) hHeld ?_
            rotate_left
            · (intro w hSw; (try dsimp only at hSw); go_simp; first | done | with_reducible rfl)
            (try simp only [Act.put, List.getElem_toArray, List.getElem_cons_zero, List.getElem_cons_succ, List.setIfInBounds_toArray, List.set_cons_zero, List.set_cons_succ])
            refine wpAnyH_take (i := 1) (v := ?_) rfl (by kernel_rfl) (by kernel_rfl) (by kernel_rfl) (fun _ _ _ h => h) (Or.inl ⟨by first | (with_reducible rfl) | kernel_rfl, ?_⟩) hHeld ?_
            rotate_left
            · (intro w hSw; (try dsimp only at hSw); go_simp; first | done | with_reducible rfl)
            (try simp only [Act.put, List.getElem_toArray, List.getElem_cons_zero, List.getElem_cons_succ, List.setIfInBounds_toArray, List.set_cons_zero, List.set_cons_succ])
            refine wpAnyH_take (i := 2) (v := ?_) rfl (by kernel_rfl) (by kernel_rfl) (by kernel_rfl) (fun _ _ _ h => h) (Or.inl ⟨by first | (with_reducible rfl) | kernel_rfl, ?_⟩) hHeld ?_
            rotate_left
            · (intro w hSw; (try dsimp only at hSw); go_simp; first | done | with_reducible rfl)
            (try simp only [Act.put, List.getElem_toArray, List.getElem_cons_zero, List.getElem_cons_succ, List.setIfInBounds_toArray, List.set_cons_zero, List.set_cons_succ])
            refine wpAnyH_take (i := 3) (v := ?_) rfl (by kernel_rfl) (by kernel_rfl) (by kernel_rfl) (fun _ _ _ h => h) (Or.inl ⟨by first | (with_reducible rfl) | kernel_rfl, ?_⟩) hHeld ?_
            rotate_left
            · (intro w hSw; (try dsimp only at hSw); go_simp; first | done | with_reducible rfl)
            (try simp only [Act.put, List.getElem_toArray, List.getElem_cons_zero, List.getElem_cons_succ, List.setIfInBounds_toArray, List.set_cons_zero, List.set_cons_succ])
            refine wpAnyH_take (i := 5) (v := ?_) rfl (by kernel_rfl) (by kernel_rfl) (by kernel_rfl) (fun _ _ _ h => h) (Or.inl ⟨by first | (with_reducible rfl) | kernel_rfl, ?_⟩) hHeld ?_
            rotate_left
            · (intro w hSw; (try dsimp only at hSw); go_simp; first | done | with_reducible rfl)
            (try simp only [Act.put, List.getElem_toArray, List.getElem_cons_zero, List.getElem_cons_succ, List.setIfInBounds_toArray, List.set_cons_zero, List.set_cons_succ])
            refine wpAnyH_take (i := 6) (v := ?_) rfl (by kernel_rfl) (by kernel_rfl) (by kernel_rfl) (fun _ _ _ h => h) (Or.inl ⟨by first | (with_reducible rfl) | kernel_rfl, ?_⟩) hHeld ?_
            rotate_left
            · (intro w hSw; (try dsimp only at hSw); go_simp; first | done | with_reducible rfl)
            (try simp only [Act.put, List.getElem_toArray, List.getElem_cons_zero, List.getElem_cons_succ, List.setIfInBounds_toArray, List.set_cons_zero, List.set_cons_succ])
            refine wpAnyH_take (i := 7) (v := ?_) rfl (by kernel_rfl) (by kernel_rfl) (by kernel_rfl) (fun _ _ _ h => h) (Or.inl ⟨by first | (with_reducible rfl) | kernel_rfl, ?_⟩) hHeld ?_
            rotate_left
            · (intro w hSw; (try dsimp only at hSw); go_simp; first | done | with_reducible rfl)
            (try simp only [Act.put, List.getElem_toArray, List.getElem_cons_zero, List.getElem_cons_succ, List.setIfInBounds_toArray, List.set_cons_zero, List.set_cons_succ])
            refine wpAnyH_ready (rs := [4, 8]) (by kernel_rfl) (by simp) ?_
            refine AllReadyH.cons rfl (fun K hK => ?_) (AllReadyH.cons rfl (fun K hK => ?_) AllReadyH.nil)
            go_simp
            refine hK.out _ _ (by (with_reducible first | exact blk11 X8.out | exact blk11 X7.out | exact blk11 X6.out | exact blk11 (Blk.drew X5.out))) (fun hHeld => ?_)
            clear hK K
            (try simp only [Act.put, List.getElem_toArray, List.getElem_cons_zero, List.getElem_cons_succ, List.setIfInBounds_toArray, List.set_cons_zero, List.set_cons_succ])
            refine wpAnyH_ready (rs := [8]) (by kernel_rfl) (by simp) ?_
            refine AllReadyH.cons rfl (fun K hK => ?_) AllReadyH.nil
            go_simp
            refine hK.out _ _ (by (with_reducible first | exact blk11 X8.out | exact blk11 X7.out | exact blk11 X6.out | exact blk11 (Blk.drew X5.out))) (fun hHeld => ?_)
            clear hK K
            (try simp only [Act.put, List.getElem_toArray, List.getElem_cons_zero, List.getElem_cons_succ, List.setIfInBounds_toArray, List.set_cons_zero, List.set_cons_succ])
            rotate_left
            go_simp
            refine hK.out _ _ (by (with_reducible first | exact blk11 X8.out | exact blk11 X7.out | exact blk11 X6.out | exact blk11 (Blk.drew X5.out))) (fun hHeld => ?_)
            clear hK K
            (try simp only [Act.put, List.getElem_toArray, List.getElem_cons_zero, List.getElem_cons_succ, List.setIfInBounds_toArray, List.set_cons_zero, List.set_cons_succ])
            refine wpAnyH_ready (rs := [4]) (by kernel_rfl) (by simp) ?_
            refine AllReadyH.cons rfl (fun K hK => ?_) AllReadyH.nil
            go_simp
            refine hK.out _ _ (by (with_reducible first | exact blk11 X8.out | exact blk11 X7.out | exact blk11 X6.out | exact blk11 (Blk.drew X5.out))) (fun hHeld => ?_)
            clear hK K
            (try simp only [Act.put, List.getElem_toArray, List.getElem_cons_zero, List.getElem_cons_succ, List.setIfInBounds_toArray, List.set_cons_zero, List.set_cons_succ])
            rotate_left
            all_goals (
              refine wpAnyH_ready (rs := [9]) (by kernel_rfl) (by simp) ?_
              refine AllReadyH.cons rfl (fun K hK => ?_) AllReadyH.nil
              go_simp
              rw [← HW6.out]
              refine HI.out.mono ?_
              rintro e w7 ⟨A', _, c', rfl, rfl, hl7, hg7, hat7⟩
              have HL7 := Lib.hid hl7
              have HG7 := Lib.hid hg7
              have HAt7 := Lib.hid hat7
              have HS7 := Lib.hid ((H5.out.stt.below HB56.out).grownO hg7 (fun e => H5.out.nep e.symm) (fun e => H5.out.nem e.symm))
              have c7 := HS7.out.c0
              have f7 := HS7.out.blk.frozen 0
              have X7 := Lib.hid ((X5.out.below HB56.out X5.out.lt).grown hg7 (fun e => HXo.out e.symm))
              have X8 := Lib.hid (Blk.far X7.out (p := ⟨p, 0, none⟩) HNp.out (.slice A' (L.length + 1) c'))
              clear hl7 hg7 hat7
              refine hK.out _ _ (by (with_reducible first | exact blk11 X8.out | exact blk11 X7.out | exact blk11 X6.out | exact blk11 (Blk.drew X5.out))) (fun hHeld => ?_)
              clear hK K
              (try simp only [Act.put, List.getElem_toArray, List.getElem_cons_zero, List.getElem_cons_succ, List.setIfInBounds_toArray, List.set_cons_zero, List.set_cons_succ])
              refine wpAnyH_take (i := 10) (v := ?_) rfl (by kernel_rfl) (by kernel_rfl) (by kernel_rfl) (fun _ _ _ h => h) (Or.inl ⟨by first | (with_reducible rfl) | kernel_rfl, ?_⟩) hHeld ?_
              rotate_left
              · (intro w hSw; (try dsimp only at hSw); go_simp; first | done | with_reducible rfl)
              (try simp only [Act.put, List.getElem_toArray, List.getElem_cons_zero, List.getElem_cons_succ, List.setIfInBounds_toArray, List.set_cons_zero, List.set_cons_succ])
              refine wpAnyH_take (i := 11) (v := ?_) rfl (by kernel_rfl) (by kernel_rfl) (by kernel_rfl) (fun _ _ _ h => h) (Or.inl ⟨by first | (with_reducible rfl) | kernel_rfl, ?_⟩) hHeld ?_
              rotate_left
              · (intro w hSw; (try dsimp only at hSw); go_simp; first | done | with_reducible rfl)
              (try simp only [Act.put, List.getElem_toArray, List.getElem_cons_zero, List.getElem_cons_succ, List.setIfInBounds_toArray, List.set_cons_zero, List.set_cons_succ])
              refine wpAnyH_ready (rs := [12]) (by kernel_rfl) (by simp) ?_
              refine AllReadyH.cons rfl (fun K hK => ?_) AllReadyH.nil
              go_simp
              refine hK.out _ _ (by (with_reducible first | exact blk11 X8.out | exact blk11 X7.out | exact blk11 X6.out | exact blk11 (Blk.drew X5.out))) (fun hHeld => ?_)
              clear hK K
              (try simp only [Act.put, List.getElem_toArray, List.getElem_cons_zero, List.getElem_cons_succ, List.setIfInBounds_toArray, List.set_cons_zero, List.set_cons_succ])
              refine wpAnyH_done (by kernel_rfl) ?_ _
              have hS9 : St3 (w7.setCell ⟨p, 0, none⟩ (.slice A' (L.length + 1) c')) B p m (.slice A' (L.length + 1) c') ((L.length : Int) - (k : Int)) ((recsOf L).take k ++ rec0 x :: (recsOf L).drop k) (foldE (L.take k)) := by
                have hne : ∀ b, b < w5.heap.size → (Value.slice A L.length c).ownBlock ≠ some b → (Value.slice A' (L.length + 1) c').ownBlock ≠ some b := fun b hb h e => by
                  rcases HAt7.out with h2 | h2
                  · exact h (h2.symm.trans e)
                  · rw [h2] at e; have := Option.some.inj e; have h3 := HB56.out.size; omega
                have hnp := hne p H5.out.stt.blk.lt H5.out.nep
                exact ⟨HS7.out.setV _, OwnC.apart HL7.out hnp _ _, hnp, hne m H5.out.stt.map.lt H5.out.nem⟩
              have hK9 : KeepV w (w7.setCell ⟨p, 0, none⟩ (.slice A' (L.length + 1) c')) p m (.slice A L.length c) :=
                ((K5.out.below HB56.out).grownO HG7.out (fun g e => .inl e)).grown (gb_setCell (gb_refl w7 p) (.inl rfl) _) (.inl rfl)
              have hat9 : ∀ g, (Value.slice A' (L.length + 1) c').ownBlock = some g → (Value.slice A L.length c).ownBlock = some g ∨ w.heap.size ≤ g := fun g e => by
                rcases HAt7.out with h2 | h2
                · exact .inl (h2.symm.trans e)
                · rw [h2] at e; have := Option.some.inj e; have h3 := HB56.out.size; have h4 := K5.out.size; exact .inr (by omega)
              have hH : Half ((recsOf L).take k ++ rec0 x :: (recsOf L).drop k) (addO L x) k := by
                have := Half.start L x
                rw [← HAt.out] at this
                exact this
              have hlen' : (addO L x).length = L.length + 1 := addO_len L x
              have hfk : foldE (L.take k) = foldE ((addO L x).take k) := by
                have := addO_take L x
                rw [← HAt.out] at this
                rw [this]
              rw [hfk] at hS9
              obtain ⟨w9, hw9⟩ : ∃ w9, w9 = w7.setCell ⟨p, 0, none⟩ (.slice A' (L.length + 1) c') := ⟨_, rfl⟩
              rw [← hw9] at hS9 hK9 ⊢
              obtain ⟨LL, hLL⟩ : ∃ LL, LL = addO L x := ⟨_, rfl⟩
              rw [← hLL] at hS9 hH hlen'
              have HH := Lib.hid hH
              have HS9 := Lib.hid hS9
              have HK9 := Lib.hid hK9
              have HAt9 := Lib.hid hat9
              have HLL := Lib.hid hLL
              have HLen := Lib.hid hlen'
              clear hw9 hS9 hK9 hat9 hH hLL hlen' hfk c0 x0 x1 x2 x3 x4 x5 x6 x7 x8 x9 x10 c06 c7 f7 hd
              go_wp2_with fail
              go_loopw [9] (fun i wr => ∃ (j : Nat) (R : List Rec), k ≤ j ∧ j ≤ L.length + 1 ∧ i = .int .i64 (j : Int) ∧ RowKit.Hid (Half R LL j) ∧ RowKit.Hid (St3 wr B p m (.slice A' (L.length + 1) c') ((L.length : Int) - (k : Int)) R (foldE (LL.take j))) ∧ RowKit.Hid (KeepV w wr p m (.slice A L.length c))) (fun i _ => L.length + 1 - (intOf i).toNat)
              case atStart => exact ⟨k, _, Nat.le_refl _, by omega, rfl, HH, HS9, HK9⟩
              case round =>
                obtain ⟨j, R, hj1, hj2, rfl, HHf, HSr, HKr⟩ := hrel
                have c0 := HSr.out.stt.c0
                rcases Nat.lt_or_ge j (L.length + 1) with hlt | hge
                · have hRl : R.length = L.length + 1 := by rw [HHf.out.len, HLen.out]
                  have hjr : j < R.length := by omega
                  have hjl : j < LL.length := by rw [HLen.out]; exact hlt
                  have hlog := HSr.out.log
                  rw [← hRl] at hlog
                  obtain ⟨g, c2, e2, hown, hnc, hcm, hrec, hfr⟩ := Log.at_ hlog hjr
                  rw [hRl] at hown
                  cases e2
                  rw [hRl] at hnc
                  have hpg : p ≠ g := fun e => HSr.out.nep (by rw [hown, e])
                  have hmg : m ≠ g := fun e => HSr.out.nem (by rw [hown, e])
                  have hD := do_st _ g (j * 20) p m _ _ _ wr hrec hfr hpg hmg HSr.out.stt (by have := foldE_len (LL.take j); rw [List.length_take] at this; omega)
                  rw [HHf.out.at_ hjr] at hD
                  have HD := Lib.hid hD
                  have HOwn := Lib.hid hown
                  have HRl := Lib.hid hRl
                  have HJl := Lib.hid hjl
                  have hlt2 : (j : Int) < (L.length : Int) + 1 := by omega
                  clear hD hown hrec hfr hlog hpg hmg
                  go_wp2_with (go_at_call 29; refine HD.out.mono ?_; rintro e wd ⟨rfl, hdid⟩; have HDid := Lib.hid hdid; clear hdid)
                  have hs2 := St3.did_ hRl HSr.out hjr HDid.out
                  exact ⟨⟨j + 1, _, by omega, by omega, by go_num, Lib.hid (HHf.out.next HJl.out), Lib.hid (by rw [foldE_take HJl.out]; exact hs2), Lib.hid (HKr.out.trans (HDid.out.keep.toV HOwn.out) HAt9.out)⟩, by simp [intOf]; omega⟩
                · obtain rfl : j = L.length + 1 := by omega
                  have hlt2 : ¬ ((L.length + 1 : Nat) : Int) < (L.length : Int) + 1 := by omega
                  have hH := HHf.out
                  have hS := HSr.out
                  rw [← HLen.out] at hH hS
                  rw [hH.all, List.take_length] at hS
                  rw [HLen.out] at hS
                  have HSf := Lib.hid hS
                  clear hH hS
                  go_wp2_with fail
                  rw [← HQ.out, recsOf_len]
                  have hc : codeO L x = 0 := codeO_zero.2 ⟨HR.out, HHs.out.symm, by omega⟩
                  have hins : insO L x = LL := by unfold insO; rw [if_pos hc, HLL.out]
                  refine ⟨_, (L.length : Int) - (k : Int), by rw [hc], ?_, HKr.out, HAt9.out, fun _ => by rw [HAt.out], fun h => absurd hc h⟩
                  rw [hins]
                  exact ⟨HSf.out, by rw [← hins]; exact insO_sorted HM.out.sorted x, by rw [HLen.out]; omega, HM.out.p_ge, HM.out.m_ge⟩
            )
end Go.Proofs.Ytaglomhmnoldlaa
