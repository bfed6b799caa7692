/- A crash. -/
import Derived.Test.YticgcpbblefacaaDf
namespace Go.Proofs.Yticgcpbblefacaa
open Go.RowKit
attribute [local go_sem] bs_size bs_getElem bs_list bs_append

def kept (f : Nat → Bool) : Nat → List Wr → List Wr
  | _, [] => []
  | i, a :: r => if f i then a :: kept f (i + 1) r else kept f (i + 1) r
theorem kept_snoc (f : Nat → Bool) (a : Wr) : ∀ (l : List Wr) (i : Nat), kept f i (l ++ [a]) = kept f i l ++ (if f (i + l.length) then [a] else [])
  | [], i => by simp only [List.nil_append, kept, List.length_nil, Nat.add_zero]
  | b :: l, i => by
    have ih := kept_snoc f a l (i + 1)
    simp only [List.cons_append, kept, List.length_cons]
    rw [ih, show i + 1 + l.length = i + (l.length + 1) from by omega]
    cases f i <;> simp
theorem kept_mem {f : Nat → Bool} {a : Wr} : ∀ {l : List Wr} {i : Nat}, a ∈ kept f i l → a ∈ l
  | [], _, h => by cases h
  | b :: l, i, h => by
    unfold kept at h
    split at h
    · rcases List.mem_cons.1 h with rfl | h
      · simp
      · exact List.mem_cons_of_mem _ (kept_mem h)
    · exact List.mem_cons_of_mem _ (kept_mem h)
theorem kept_le (f : Nat → Bool) : ∀ (l : List Wr) (i : Nat), (kept f i l).length ≤ l.length
  | [], _ => Nat.le_refl _
  | b :: l, i => by
    have := kept_le f l (i + 1)
    unfold kept
    split <;> simp <;> omega
/-- the first j of l done, the last one of all torn, if it is to be -/
def runN (fs : Files) (t : Bool) (l : List Wr) : Nat → Files
  | 0 => fs
  | j + 1 => match l[j]? with
    | some a => doneL (runN fs t l j) a (t && decide (j + 1 = l.length))
    | none => runN fs t l j
theorem laid_len (s data : Bytes) (k : Nat) : (laidL s k data).length = max s.length (k + data.length) := by
  simp [laidL, zeros]; omega
theorem Short.put {n : Nat} {k v : Bytes} (hv : v.length ≤ n) : ∀ {fs : Files} (_ : Short n fs), Short n (put fs k v)
  | [], _ => by intro e he; simp [Go.Proofs.Yticgcpbblefacaa.put] at he; rw [he]; exact hv
  | a :: r, h => by
    unfold Go.Proofs.Yticgcpbblefacaa.put
    split
    · intro e he
      rcases List.mem_cons.1 he with rfl | he
      · exact hv
      · exact h e (List.mem_cons_of_mem _ he)
    · intro e he
      rcases List.mem_cons.1 he with rfl | he
      · exact h _ (by simp)
      · exact Short.put hv (fun x hx => h x (List.mem_cons_of_mem _ hx)) e he
theorem Short.done {n : Nat} {fs : Files} {a : Wr} (h : Short n fs) (ha : a.at_ + a.data.length ≤ n) (t : Bool) : Short n (doneL fs a t) :=
  Short.put (by
    rw [laid_len]
    have := h.get a.name
    have := half_len t a.data
    omega) h
theorem Short.run {n : Nat} {fs : Files} {l : List Wr} (h : Short n fs) (hl : ∀ a ∈ l, a.at_ + a.data.length ≤ n) (t : Bool) : ∀ j, Short n (runN fs t l j)
  | 0 => h
  | j + 1 => by
    unfold runN
    split
    · rename_i a ha
      exact (Short.run h hl t j).done (hl a (List.mem_of_getElem? ha)) _
    · exact Short.run h hl t j

theorem Rowed.shape {w : World} {B : Nat} {v : Value} {l : List Wr} (h : Rowed w B v l) : ∃ A c, v = .slice A l.length c := by
  obtain ⟨us, h1, _⟩ := h
  rcases h1.2 with ⟨hv, h0⟩ | ⟨g, cap, cur, hv, _⟩
  · exact ⟨none, 0, by rw [hv, h0]⟩
  · exact ⟨_, _, hv⟩
theorem Rowed.elem {w : World} {B n c k : Nat} {A : Option Addr} {l : List Wr} (h : Rowed w B (.slice A n c) l) (hk : k < l.length) :
    ∃ g u a, A = some ⟨g, 0, none⟩ ∧ l[k]? = some a ∧ ActAt w u a ∧ w.cell? ⟨g, k, none⟩ = some u := by
  obtain ⟨us, h1, h2⟩ := h
  obtain ⟨u, hu, ha⟩ := h2.at_ (k := k) (a := l[k]) (by simp [hk])
  rcases h1.2 with ⟨hv, h0⟩ | ⟨g, cap, cur, hv, _⟩
  · omega
  · cases hv
    have := World.ownsRow.cellAt h1 k (by omega)
    exact ⟨g, u, l[k], rfl, by simp [hk], ha, this.trans hu⟩
theorem Rowed.later {w w' : World} {B : Nat} {v : Value} {l : List Wr} (h : Rowed w B v l) (hb : Below w.heap.size w w') : Rowed w' B v l :=
  h.grown (gb_of_below hb none) (fun _ e => by cases e) (by
    obtain ⟨us, h1, _⟩ := h
    rcases h1.2 with ⟨hv, _⟩ | ⟨g, cap, cur, hv, _⟩
    · left; rw [hv]; rfl
    · right; rw [hv]; simp [Value.ownBlock])
theorem ActAt.later {w w' : World} {u : Value} {a : Wr} (h : ActAt w u a) (hb : Below w.heap.size w w') : ActAt w' u a := h.grown (gb_of_below hb none) (fun _ e => by cases e)

theorem Rowed.append {B n : Nat} {v v' : Value} {l : List Wr} {w w2 : World} {us : List Value} {u : Value} {a : Wr} (hus : w.ownsRow B 55 1 v l.length us) (hac : Acts w us l) (hu : ActAt w u a)
    (hn : n = l.length + 1) (hown : w2.ownsRow B 55 1 v' n (us ++ [u])) (hg : w.grownBy w2 v.ownBlock) : Rowed w2 B v' (l ++ [a]) := by
  have hbox : ∀ g, v.ownBlock = some g → NotBox w g := NotBox.row hus
  exact ⟨us ++ [u], by rw [List.length_append, List.length_singleton, ← hn]; exact hown, (hac.grown hg hbox).snoc (hu.grown hg hbox)⟩
/-- what the program asks of a bit -/
def kbit (keep : Int) (i : Nat) : Bool := bits BinOp.and IntKind.i64 (keep / 2 ^ (i % 30)) 1 == 1

set_option maxHeartbeats 4000000 in
set_option maxRecDepth 100000 in
theorem crash_any {B d nb fb : Nat} {v : Value} {st : DS} {w : World} (h : Dsk B w d nb fb v st) (keep : Int) (t : Bool) (hn : st.acts.length ≤ 1000) (hs : Short 100000000 st.firm) (hl : ∀ a ∈ st.acts, a.at_ + a.data.length ≤ 100000000 ∧ a.at_ ≤ 8192) :
    Calls Try.prog 12 #[.pointer (some ⟨d, 0, none⟩), .int .i64 keep, .bool t] w fun e w' => ∃ nb' fs, e = .returned (.tuple #[]) ∧ fs = runN st.firm t (kept (kbit keep) 0 st.acts) (kept (kbit keep) 0 st.acts).length ∧ Dsk B w' d nb' fb (.slice none 0 0) ⟨st.limit, fs, fs, [], 0, false⟩ ∧ Below B w w' := by
  obtain ⟨ks, hks⟩ : ∃ ks, ks = kept (kbit keep) 0 st.acts := ⟨_, rfl⟩
  obtain ⟨F, hF⟩ : ∃ F, F = runN st.firm t ks ks.length := ⟨_, rfl⟩
  suffices main : Calls Try.prog 12 #[.pointer (some ⟨d, 0, none⟩), .int .i64 keep, .bool t] w fun e w' => ∃ nb', e = .returned (.tuple #[]) ∧ Dsk B w' d nb' fb (.slice none 0 0) ⟨st.limit, F, F, [], 0, false⟩ ∧ Below B w w' from
    main.mono fun e w' ⟨nb', he, hd, hb⟩ => ⟨nb', F, he, by rw [hF, hks], hd, hb⟩
  have HKS := Lib.hid hks
  have HF := Lib.hid hF
  clear hks hF
  have hB : B ≤ w.heap.size := Nat.le_of_lt (Nat.lt_of_le_of_lt h.bd h.blk.lt)
  obtain ⟨i0, hi, hz0, hz1, hz2⟩ := info_parts info55
  obtain ⟨A, c, rfl⟩ := h.acts.shape
  have q3 : w.cell? ⟨d, 3, none⟩ = some (.slice A st.acts.length c) := h.blk.cell 3
  have H := Lib.hid h
  have HS := Lib.hid hs
  have HL := Lib.hid hl
  clear h hs hl
  go_enter Try.func12, Try.ntmps12
  go_wp2_with fail
  go_loopw [6, 18] (fun kv i wr => ∃ k : Nat, k ≤ st.acts.length ∧ i = .int .i64 (k : Nat) ∧ Rowed wr w.heap.size kv (kept (kbit keep) 0 (st.acts.take k)) ∧ Below w.heap.size w wr) (fun _ i _ => st.acts.length - (intOf i).toNat)
  case atStart => exact ⟨0, Nat.zero_le _, rfl, Rowed.nil_ _ _, Below.refl _ _⟩
  case round =>
    obtain ⟨k, hk, rfl, hR, hb⟩ := hrel
    rcases Nat.lt_or_ge k st.acts.length with hlt | hge
    · obtain ⟨g, u, a, rfl, hak, hua, hc⟩ := (H.out.later hb).acts.elem hlt
      obtain ⟨p, q, r, rfl, _⟩ := id hua
      obtain ⟨A2, c2, rfl⟩ := hR.shape
      have htk : st.acts.take (k + 1) = st.acts.take k ++ [a] := by
        rw [List.take_add_one, hak]; rfl
      have hks : kept (kbit keep) 0 (st.acts.take (k + 1)) = kept (kbit keep) 0 (st.acts.take k) ++ (if kbit keep k then [a] else []) := by
        rw [htk, kept_snoc, List.length_take, Nat.min_eq_left hk, Nat.zero_add]
      have hkl := Nat.le_trans (kept_le (kbit keep) (st.acts.take k) 0) (by rw [List.length_take]; omega : (st.acts.take k).length ≤ 1000)
      obtain ⟨X, hX⟩ : ∃ X, bits BinOp.and IntKind.i64 (keep / 2 ^ (k % 30)) 1 = X := ⟨_, rfl⟩
      have hkb : kbit keep k = (X == 1) := by unfold kbit; rw [hX]
      rw [hkb] at hks
      have hB0 : w.heap.size ≤ wr.heap.size := hb.size
      obtain ⟨w0, hw0⟩ : ∃ w0, w0 = wr.alloc (.cells #[.func (.func 21) #[] #[.pointer (some ⟨p, 0, none⟩), .pointer (some ⟨q, 0, none⟩), .pointer (some ⟨r, 0, none⟩)]] 55) := ⟨_, rfl⟩
      have hb0 : Below wr.heap.size wr w0 := by rw [hw0]; exact (Below.refl _ wr).alloc (Nat.le_refl _) _
      obtain ⟨us, hus, hac⟩ := hR.later hb0
      have c0 : w0.cell? ⟨wr.heap.size, 0, none⟩ = some (.func (.func 21) #[] #[.pointer (some ⟨p, 0, none⟩), .pointer (some ⟨q, 0, none⟩), .pointer (some ⟨r, 0, none⟩)]) := by rw [hw0]; simp
      obtain ⟨L, hL⟩ : ∃ L, L = kept (kbit keep) 0 (st.acts.take k) := ⟨_, rfl⟩
      rw [← hL] at hks hR hus hac hkl ⊢
      have HW := Lib.hid hw0
      have HUS := Lib.hid hus
      have HAC := Lib.hid hac
      have HUA := Lib.hid (hua.later hb0)
      have HR := Lib.hid hR
      have HBX := Lib.hid hb
      have HB0 := Lib.hid hb0
      have HAK := Lib.hid hak
      have HKS1 := Lib.hid hks
      clear hua hR hb hak htk hks hkb hw0 hus hac hb0 hL
      cases hc1 : (X == 1) with
      | false =>
        go_wp2_with fail
        refine ⟨⟨k + 1, hlt, by go_num, ?_, HBX.out⟩, by simp [intOf]; omega⟩
        rw [HKS1.out, hc1]
        simpa using HR.out
      | true =>
        go_wp2_with (at_builtin; rw [← HW.out]; refine wpList_append_own _ rfl _ _ 48 rfl w.heap.size 55 i0 _ 1 8 Try.underlying48 hi hz0 hz1 hz2 rfl (by decide) _ L.length us rfl HUS.out ⟨wr.heap.size, 0, none⟩ 1 1 [.func (.func 21) #[] #[.pointer (some ⟨p, 0, none⟩), .pointer (some ⟨q, 0, none⟩), .pointer (some ⟨r, 0, none⟩)]] rfl ?c1 ?c2 ?c3 ?c4 ?c5 (Nat.le_trans hB0 HB0.out.size) ?_)
        case c1 => rfl
        case c2 =>
          intro j u hj
          match j, hj with
          | 0, hj => cases hj; exact c0
        case c3 =>
          intro x hx
          cases List.mem_singleton.1 hx
          rfl
        case c4 => unfold maxLen; omega
        case c5 => omega
        intro v' w2 hown2 hg2 _
        have hR2 := Rowed.append HUS.out HAC.out HUA.out rfl hown2 hg2
        have hB2 : Below w.heap.size w w2 := (HBX.out.trans (HB0.out.mono hB0)).grown hg2 (Nat.le_trans hB0 HB0.out.size) (fun k hk => (HUS.out.lt k hk).1)
        obtain ⟨ao, cap, rfl⟩ := hR2.shape
        have HR2 := Lib.hid hR2
        have HB2 := Lib.hid hB2
        clear hR2 hB2 hown2 hg2
        go_wp2_with fail
        refine ⟨⟨k + 1, hlt, by go_num, ?_, HB2.out⟩, by simp [intOf]; omega⟩
        rw [HKS1.out, hc1]
        exact HR2.out
    · have hke : k = st.acts.length := by omega
      rw [hke, List.take_length, ← HKS.out] at hR
      obtain ⟨A2, c2, rfl⟩ := hR.shape
      have hnot : decide (k < st.acts.length) = false := by simp; omega
      have hm : ks.length ≤ 1000 := by rw [HKS.out]; exact Nat.le_trans (kept_le _ _ _) hn
      have hl : ∀ a ∈ ks, a.at_ + a.data.length ≤ 100000000 ∧ a.at_ ≤ 8192 := fun a ha => HL.out a (kept_mem (by rw [HKS.out] at ha; exact ha))
      have HL2 := Lib.hid hl
      have H2 := Lib.hid (H.out.later hb)
      have HR := Lib.hid hR
      have HBX := Lib.hid hb
      have HKE := Lib.hid hke
      clear hl hR hb hke
      go_wp2_with fail
      go_loopw [36] (fun i ws => ∃ j : Nat, j ≤ ks.length ∧ i = .int .i64 (j : Nat) ∧ Dsk B ws d nb fb (.slice A st.acts.length c) { st with firm := runN st.firm t ks j } ∧ Rowed ws w.heap.size (.slice A2 ks.length c2) ks ∧ Below B w ws) (fun i _ => ks.length - (intOf i).toNat)
      case atStart => exact ⟨0, Nat.zero_le _, rfl, H2.out, HR.out, HBX.out.mono hB⟩
      case round =>
        obtain ⟨j, hj, rfl, hD, hR3, hB3⟩ := hrel
        rcases Nat.lt_or_ge j ks.length with hlt2 | hge2
        · obtain ⟨g, u, a, rfl, hak, hua, hc⟩ := hR3.elem hlt2
          obtain ⟨p, q, r, rfl, hp, hq, hr⟩ := hua
          have k2 : wr.cell? ⟨d, 2, none⟩ = some (.map (some fb)) := hD.blk.cell 2
          have hstep : runN st.firm t ks (j + 1) = doneL (runN st.firm t ks j) a (t && decide (j + 1 = ks.length)) := by simp only [runN, hak]
          have hsh : Short 100000000 (runN st.firm t ks j) := HS.out.run (fun a ha => (HL2.out a ha).1) t j
          have haL := HL2.out a (List.mem_of_getElem? hak)
          have hact : ∀ b : Bool, Calls Try.prog 21 #[.map (some fb), .bool b, .pointer (some ⟨p, 0, none⟩), .pointer (some ⟨q, 0, none⟩), .pointer (some ⟨r, 0, none⟩)] wr fun e w' => e = .returned (.tuple #[]) ∧ Fs w' fb (doneL (runN st.firm t ks j) a b) ∧ wr.grownBy w' (some fb) :=
            fun b => act_any b wr hp hq hr hD.firm (hsh.get _) (by omega) haL.2
          have hbf := hD.bf
          have hBw : B ≤ wr.heap.size := Nat.le_of_lt (Nat.lt_of_le_of_lt hD.bd hD.blk.lt)
          have hnb : NotBox wr fb := NotBox.fs hD.firm
          have hnr := hR3.ne_fs hD.firm
          have next : ∀ w', Fs w' fb (runN st.firm t ks (j + 1)) → wr.grownBy w' (some fb) → Dsk B w' d nb fb (.slice A st.acts.length c) { st with firm := runN st.firm t ks (j + 1) } ∧ Rowed w' w.heap.size (.slice (some ⟨g, 0, none⟩) ks.length c2) ks ∧ Below B w w' :=
            fun w' hf hg => ⟨hD.hardened hg hf, hR3.grown hg (fun x e => by cases e; exact hnb) (.inr hnr), hB3.grown hg hBw (fun x e => by cases e; exact hbf)⟩
          rw [hstep] at next
          have NX := Lib.hid next
          have HA := Lib.hid hact
          have HST := Lib.hid hstep
          clear next hact hstep hsh hak hD hR3 hB3 hp hq hr hnb hnr hbf hBw haL
          cases t with
          | false =>
            go_wp2_with (go_at_call 21; refine (HA.out false).mono ?_; rintro e w5 ⟨rfl, hf5, hg5⟩; have H5 := Lib.hid (NX.out w5 hf5 hg5); clear hf5 hg5)
            refine ⟨⟨j + 1, hlt2, by go_num, by rw [HST.out]; exact H5.out.1, H5.out.2.1, H5.out.2.2⟩, by simp [intOf]; omega⟩
          | true =>
            have hw1 : wrap64 ((ks.length : Int) - 1) = (ks.length : Int) - 1 := by unfold wrap64; omega
            obtain ⟨b, hb⟩ : ∃ b, b = decide (j + 1 = ks.length) := ⟨_, rfl⟩
            have hb1 : ((j : Int) == (ks.length : Int) - 1) = b := by
              rw [hb, Bool.eq_iff_iff]; simp; omega
            have HBq := Lib.hid hb
            clear hb
            go_wp2_with (go_at_call 21; refine (HA.out b).mono ?_; rintro e w5 ⟨rfl, hf5, hg5⟩; have H5 := Lib.hid (NX.out w5 (by rw [← HBq.out]; exact hf5) hg5); clear hf5 hg5)
            refine ⟨⟨j + 1, hlt2, by go_num, by rw [HST.out]; exact H5.out.1, H5.out.2.1, H5.out.2.2⟩, by simp [intOf]; omega⟩
        · have hje : j = ks.length := by omega
          have hnot2 : decide (j < ks.length) = false := by simp; omega
          rw [hje, ← HF.out] at hD
          have hBw : B ≤ wr.heap.size := Nat.le_of_lt (Nat.lt_of_le_of_lt hD.bd hD.blk.lt)
          have r2 : wr.cell? ⟨d, 2, none⟩ = some (.map (some fb)) := hD.blk.cell 2
          obtain ⟨w2, hw2⟩ : ∃ w2, w2 = wr.alloc (fobj F) := ⟨_, rfl⟩
          have hb2 : Below wr.heap.size wr w2 := by rw [hw2]; exact (Below.refl _ _).alloc (Nat.le_refl _) _
          have hf2 : Fs w2 wr.heap.size F := by rw [hw2]; exact heap_alloc_new wr _
          have hcl := clone_any fb F wr hD.firm
          rw [← hw2] at hcl
          have h2 := hD.later hb2
          have b1 := h2.blk.set_ 1 (.map (some wr.heap.size))
          have b3 := b1.set_ 3 (.slice none 0 0)
          have b5 := b3.set_ 5 (.bool false)
          have b4 := b5.set_ 4 (.int .i64 0)
          have s1 := h2.blk.cell 1
          have z1 := h2.blk.frozen 1
          have s3 := b1.cell 3
          have z3 := b1.frozen 3
          have s5 := b3.cell 5
          have z5 := b3.frozen 5
          have s4 := b5.cell 4
          have z4 := b5.frozen 4
          simp at s1 s3 s5 s4
          obtain ⟨w4, hw4⟩ : ∃ w4, w4 = (((w2.setCell ⟨d, 1, none⟩ (.map (some wr.heap.size))).setCell ⟨d, 3, none⟩ (.slice none 0 0)).setCell ⟨d, 5, none⟩ (.bool false)).setCell ⟨d, 4, none⟩ (.int .i64 0) := ⟨_, rfl⟩
          have hg4 : w2.grownBy w4 (some d) := by
            rw [hw4]
            exact gb_setCell (gb_setCell (gb_setCell (gb_setCell (gb_refl w2 _) (p := ⟨d, 1, none⟩) (.inl rfl) _) (p := ⟨d, 3, none⟩) (.inl rfl) _) (p := ⟨d, 5, none⟩) (.inl rfl) _) (p := ⟨d, 4, none⟩) (.inl rfl) _
          have hlt := hD.blk.lt
          have hflt := hD.firm.lt
          rw [← hw4] at b4
          have h4 : Dsk B w4 d wr.heap.size fb (.slice none 0 0) ⟨st.limit, F, F, [], 0, false⟩ :=
            ⟨b4, hf2.grown hg4 (fun e => hf2.ne_blk h2.blk (by cases e; rfl)), h2.firm.grown hg4 (fun e => h2.firm.ne_blk h2.blk (by cases e; rfl)), by omega, Rowed.nil_ _ _, h2.bd, hBw, h2.bf⟩
          have hB4 : Below B w w4 := (hB3.trans (hb2.mono hBw)).grown hg4 (Nat.le_trans hBw hb2.size) (fun x e => by cases e; exact h2.bd)
          have H4 := Lib.hid h4
          have HB4 := Lib.hid hB4
          have HW4 := Lib.hid hw4
          have HCL := Lib.hid hcl
          clear h4 hB4 hw4 hcl hg4 b4 b5 b3 b1 h2 hD hR3 hB3 hf2 hb2 hw2 hlt hflt hje
          go_wp2_with (go_at_call 23; refine HCL.out.mono ?_; rintro e w' ⟨rfl, hw'⟩; rw [hw']; clear hw')
          rw [← HW4.out]
          first | go_end0 | refine bodyPost_ret (results_none rfl _ _ _) rfl ?_
          exact ⟨_, rfl, H4.out, HB4.out⟩
end Go.Proofs.Yticgcpbblefacaa
