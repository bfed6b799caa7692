/- DiskKeeps. -/
import Derived.Test.YticgcpbblefacaaDp
import Derived.Laws.BytesString
namespace Go.Proofs.Yticgcpbblefacaa
open Go.RowKit
attribute [local go_sem] bs_size bs_getElem bs_list bs_append

structure KI (l : List Bytes) (k : Nat) (st : DS) : Prop where
  lim : st.limit = 10000
  firm : st.firm = []
  acts : st.acts = ws 0 (l.take k)
  armed : st.armed = 0
  dead : st.dead = false
  tot_ : tot st.now ≤ 100 * k
  short : Short 100 st.now
  sh : ∀ x ∈ l.take k, x.length ≤ 100
theorem KI.step {l : List Bytes} {k : Nat} {st : DS} (h : KI l k st) (hk : k < l.length) (hs : l[k].length ≤ 100) : KI l (k + 1) (wrote st ⟨nm k, 0, l[k]⟩) := by
  refine ⟨h.lim, h.firm, ?_, h.armed, h.dead, ?_, ?_, ?_⟩
  · show st.acts ++ _ = _
    rw [h.acts, List.take_succ_eq_append_getElem hk, ws_snoc, List.length_take, Nat.min_eq_left (by omega), Nat.zero_add]
  · have := tot_done st.now ⟨nm k, 0, l[k]⟩ false
    have h2 := h.tot_
    show tot (doneL st.now _ false) ≤ _
    simp only at this
    omega
  · exact h.short.done (a := ⟨nm k, 0, l[k]⟩) (by simp only; omega) false
  · intro x hx
    rw [List.take_succ_eq_append_getElem hk] at hx
    rcases List.mem_append.1 hx with hx | hx
    · exact h.sh x hx
    · rw [List.mem_singleton.1 hx]; exact hs
theorem one_byte (W : World) (g c : Nat) (u : UInt8) (h : W.cell? ⟨g, 0, none⟩ = some (.int .u8 (u.toNat : Int))) : (convert 32 9 (.slice (some ⟨g, 0, none⟩) 1 c)).run Try.prog W = .ok (.string (bs [u])) W := by
  have := run_convert_bytes_back (P := Try.prog) W 32 9 5 ⟨g, 0, none⟩ c [u] Try.underlying32 Try.underlying5 Try.underlying9 (fun j hj => by
    match j, hj with
    | 0, _ => exact h)
  exact this

set_option maxHeartbeats 8000000 in
set_option maxRecDepth 100000 in
theorem law_keeps (A : Option Addr) (n c : Nat) (l : List Bytes) (keep : Int) (torn : Bool) (w : World) (hl : Strs w A n c l) (_hkeep : I64 keep) :
    Calls Try.prog 4 #[.slice A n c, .int .i64 keep, .bool torn] w fun e w' => e = .returned (.bool true) ∧ Below w.heap.size w w' := by
  have hn : l.length = n := hl.len
  have HL := Lib.hid hl
  clear hl
  go_enter Try.func4, Try.ntmps4
  go_wp2_with fail
  refine (new_any 10000 (by decide) (by decide) w).mono ?_
  rintro e w1 ⟨d, nb, fb, rfl, h1, hb1⟩
  have HB1 := Lib.hid hb1
  have H1 := Lib.hid h1
  clear h1 hb1
  by_cases hbig : 20 < n
  case pos =>
    go_wp2_with fail
    refine (awake_any _).mono ?_
    rintro e w2 ⟨rfl, hb2⟩
    have HB2 := Lib.hid (HB1.out.trans (hb2.mono HB1.out.size))
    clear hb2
    go_wp2_with fail
    go_ret
    exact ⟨rfl, HB2.out⟩
  case neg =>
    have hn20 : n ≤ 20 := by omega
    have hb20 : decide ((20 : Int) < (n : Int)) = false := by simp; omega
    go_wp2_with fail
    go_loopw [9, 10] (fun la i wr => ∃ (k : Nat) (st : DS) (v : Value), k ≤ n ∧ la = .int .i64 (lastI (kbit keep) k) ∧ i = .int .i64 (k : Nat) ∧ KI l k st ∧ Dsk w.heap.size wr d nb fb v st ∧ Below w.heap.size w wr) (fun _ i _ => n - (intOf i).toNat)
    case atStart => exact ⟨0, _, _, Nat.zero_le _, rfl, rfl, ⟨rfl, rfl, rfl, rfl, rfl, Nat.le_refl _, (fun _ h => by cases h), (fun _ h => by cases h)⟩, H1.out, HB1.out⟩
    case round =>
      obtain ⟨k, st, v, hk, rfl, rfl, hI, hD, hB⟩ := hrel
      rcases Nat.lt_or_ge k n with hlt | hge
      · obtain ⟨b, off, rfl, hblt, hcell, hml⟩ := HL.out.at_ (k := k) (by omega)
        have hc2 : wr.cell? ⟨b, off + k, none⟩ = some (.string (bs l[k])) := cell_below hB hblt hcell
        have hc3 : ∀ x : After wr, x.wd.cell? ⟨b, off + k, none⟩ = some (.string (bs l[k])) := fun x => x.cell hc2
        have HI := Lib.hid hI
        have HD := Lib.hid hD
        have HBX := Lib.hid hB
        clear hI hD hB hcell
        by_cases c100 : 100 < l[k].length
        · go_wp2_with fail
          refine (awake_any _).mono ?_
          rintro e w2 ⟨rfl, hb2⟩
          have HB2 := Lib.hid (HBX.out.trans (hb2.mono HBX.out.size))
          clear hb2
          go_wp2_with fail
          go_ret
          exact ⟨rfl, HB2.out⟩
        · have NX : Hid (∀ W, Below wr.heap.size wr W → Calls Try.prog 10 #[.pointer (some ⟨d, 0, none⟩), .string (bs (nm k)), .int .i64 0, .string (bs l[k])] W fun e w' => ∃ v', e = .returned (.int .i64 0) ∧ Dsk w.heap.size w' d nb fb v' (wrote st ⟨nm k, 0, l[k]⟩) ∧ Below w.heap.size w w') := Lib.hid (fun W hbW => by
            have hI := HI.out
            have hal : st.acts.length = k := by rw [hI.acts, ws_len, List.length_take]; omega
            have htt := hI.tot_
            refine (write_ok ⟨nm k, 0, l[k]⟩ (HD.out.later hbW) hI.dead hI.armed (Nat.le_refl _) (Nat.le_of_ble_eq_true rfl) (Nat.zero_le _) (by rw [hI.lim]; decide) (by omega) (fun e he => Nat.le_trans (hI.short e he) (by decide)) (by show l[k].length ≤ _; omega) (Nat.zero_le _) (by rw [hI.lim]; show tot st.now + (0 + l[k].length) ≤ 10000; omega)).mono ?_
            rintro e w' ⟨v', he, hd, hb⟩
            exact ⟨v', he, hd, (HBX.out.trans (hbW.mono HBX.out.size)).trans hb⟩)
          have h8w : IntKind.u8.wrap (IntKind.i64.wrap ((97 : Int) + (k : Int))) = (((UInt8.ofNat (97 + k)).toNat : Nat) : Int) := by
            rw [IntKind.wrap_u8, IntKind.wrap_i64]
            simp
            omega
          obtain ⟨X, hX⟩ : ∃ X, bits BinOp.and IntKind.i64 (keep / 2 ^ k) 1 = X := ⟨_, rfl⟩
          have hkb : kbit keep k = (X == 1) := by unfold kbit; rw [Nat.mod_eq_of_lt (by omega), hX]
          have LA : Hid (lastI (kbit keep) (k + 1) = if (X == 1) = true then (k : Int) else lastI (kbit keep) k) := Lib.hid (by rw [lastI, hkb])
          clear hkb
          obtain ⟨W0, hW0⟩ : ∃ W0, W0 = (wr.alloc (.cells #[.int .u8 (IntKind.u8.wrap (IntKind.i64.wrap ((97 : Int) + (k : Int))))] 5)).drew := ⟨_, rfl⟩
          have hcv : (convert 32 9 (.slice (some ⟨wr.heap.size, 0, none⟩) 1 1)).run Try.prog (wr.alloc (.cells #[.int .u8 (IntKind.u8.wrap (IntKind.i64.wrap ((97 : Int) + (k : Int))))] 5)).drew = .ok (.string (bs (nm k))) (wr.alloc (.cells #[.int .u8 (IntKind.u8.wrap (IntKind.i64.wrap ((97 : Int) + (k : Int))))] 5)).drew :=
            one_byte _ wr.heap.size 1 (UInt8.ofNat (97 + k)) (by
              have := (Blk.new wr 5 #[.int .u8 (IntKind.u8.wrap (IntKind.i64.wrap ((97 : Int) + (k : Int))))]).drew.cell 0
              rw [this, h8w]; rfl)
          have hc4 : (wr.alloc (.cells #[.int .u8 (IntKind.u8.wrap (IntKind.i64.wrap ((97 : Int) + (k : Int))))] 5)).drew.cell? ⟨b, off + k, none⟩ = some (.string (bs l[k])) := hc3 ⟨_, ((Below.refl _ wr).alloc (Nat.le_refl _) _).drew⟩
          have hbW : Below wr.heap.size wr W0 := by rw [hW0]; exact ((Below.refl _ wr).alloc (Nat.le_refl _) _).drew
          have HC0 := Lib.hid (NX.out W0 hbW)
          have HW0 := Lib.hid hW0
          clear hW0 hbW h8w
          have hK : Hid (KI l (k + 1) (wrote st ⟨nm k, 0, l[k]⟩)) := Lib.hid (HI.out.step (by omega) (by omega))
          go_wp2_with fail
          go_region_with (go_at_call 10; rw [← HW0.out]; refine HC0.out.mono ?_; rintro e w3 ⟨v3, rfl, h3, hb3⟩; have H3 := Lib.hid h3; have HB3 := Lib.hid hb3; clear h3 hb3)
          all_goals
            cases hc1 : (X == 1) with
            | false =>
              go_wp2_with fail
              exact ⟨⟨k + 1, _, v3, hlt, by rw [LA.out, hc1]; rfl, by go_num, hK.out, H3.out, HB3.out⟩, by simp [intOf]; omega⟩
            | true =>
              go_wp2_with fail
              exact ⟨⟨k + 1, _, v3, hlt, by rw [LA.out, hc1]; rfl, by go_num, hK.out, H3.out, HB3.out⟩, by simp [intOf]; omega⟩
      · have hkn : k = n := by omega
        have hnot : decide (k < n) = false := by simp; omega
        have hI2 := hI
        rw [hkn] at hI2
        have hacts : st.acts = ws 0 l := by rw [hI2.acts, List.take_of_length_le (by omega)]
        have hlen : st.acts.length = n := by rw [hacts, ws_len]; exact hn
        have hshort : ∀ x ∈ l, x.length ≤ 100 := by
          have := hI2.sh
          rwa [List.take_of_length_le (by omega)] at this
        have hcr := crash_any hD keep torn (by omega) (by rw [hI2.firm]; exact short_of rfl) (fun a ha => by
          rw [hacts] at ha
          have h1 := ws_mem ha
          have h2 := hshort _ h1.2
          omega)
        rw [hacts, hI2.firm, hI2.lim] at hcr
        have HCR := Lib.hid hcr
        have HBX := Lib.hid hB
        have HKN := Lib.hid hkn
        obtain ⟨LI, hLI⟩ : ∃ LI, LI = lastI (kbit keep) k := ⟨_, rfl⟩
        rw [← hLI]
        have HLI : Hid (LI = lastI (kbit keep) n) := Lib.hid (by rw [hLI, hkn])
        have hbt := lastI_lt (kbit keep) k
        rw [← hLI] at hbt
        clear hcr hI hI2 hD hB hkn hacts hlen hLI hshort
        go_wp2_with fail
        refine HCR.out.mono ?_
        rintro e w2 ⟨nb', fs, rfl, hfs, h2, hb2⟩
        have HFS : Hid (fs = endG (kbit keep) torn l) := Lib.hid hfs
        have H2 := Lib.hid h2
        have HB2 := Lib.hid (HBX.out.trans hb2)
        clear hfs h2 hb2
        go_wp2_with fail
        go_loopw [11] (fun i ws => ∃ j : Nat, j ≤ n ∧ i = .int .i64 (j : Nat) ∧ Dsk w.heap.size ws d nb' fb (.slice none 0 0) ⟨10000, fs, fs, [], 0, false⟩ ∧ Below w.heap.size w ws) (fun i _ => n - (intOf i).toNat)
        case atStart => exact ⟨0, Nat.zero_le _, rfl, H2.out, HB2.out⟩
        case round =>
          obtain ⟨j, hj, rfl, hD, hB⟩ := hrel
          rcases Nat.lt_or_ge j n with hltj | hgej
          · have hjl : j < l.length := by omega
            obtain ⟨b, off, rfl, hblt, hcell, hml⟩ := HL.out.at_ (k := j) hjl
            obtain ⟨W0, hW0⟩ : ∃ W0, W0 = wr.alloc (.cells #[.int .u8 (97 + (j : Int))] 5) := ⟨_, rfl⟩
            have hbW : Below wr.heap.size wr W0 := by rw [hW0]; exact (Below.refl _ wr).alloc (Nat.le_refl _) _
            have hc2 : W0.cell? ⟨b, off + j, none⟩ = some (.string (bs (l[j]'hjl))) := cell_below (hB.trans (hbW.mono hB.size)) hblt hcell
            have h97 : (97 : Int) + (j : Int) = (((UInt8.ofNat (97 + j)).toNat : Nat) : Int) := by simp; omega
            have hcv : (convert 32 9 (.slice (some ⟨wr.heap.size, 0, none⟩) 1 1)).run Try.prog (wr.alloc (.cells #[.int .u8 (97 + (j : Int))] 5)) = .ok (.string (bs (nm j))) (wr.alloc (.cells #[.int .u8 (97 + (j : Int))] 5)) :=
              one_byte _ wr.heap.size 1 (UInt8.ofNat (97 + j)) (by
                have := (Blk.new wr 5 #[.int .u8 (97 + (j : Int))]).cell 0
                rw [this, ← h97]; rfl)
            have h8 : IntKind.u8.wrap ((97 : Int) + (j : Int)) = 97 + (j : Int) := by rw [IntKind.wrap_u8]; omega
            have h8m : ((97 : Int) + (j : Int)) % 256 = 97 + (j : Int) := by omega
            have hrd := read_any (hD.later hbW) rfl (nm j) (Nat.le_refl _) (Nat.le_of_ble_eq_true rfl)
            obtain ⟨X, hX⟩ : ∃ X, bits BinOp.and IntKind.i64 (keep / 2 ^ j) 1 = X := ⟨_, rfl⟩
            have hkb : kbit keep j = (X == 1) := by unfold kbit; rw [Nat.mod_eq_of_lt (by omega), hX]
            have hX2 : X = 0 ∨ X = 1 := by rw [and_one] at hX; omega
            have hget := (endG_get (kbit keep) l n (by omega) hn20 torn).1 j hltj hjl
            rw [List.take_of_length_le (by omega), ← HFS.out, ← HLI.out, hkb] at hget
            obtain ⟨dt, hdt⟩ : ∃ dt, dt = half (torn && decide ((j : Int) = LI)) (l[j]'hjl) := ⟨_, rfl⟩
            rw [← hdt] at hget
            have HD2 := Lib.hid (hD.later hbW)
            have HBW2 := Lib.hid (hB.trans (hbW.mono hB.size))
            have HW0 := Lib.hid hW0
            have HDT := Lib.hid hdt
            clear hD hB hcell hkb hdt hW0 hbW h97
            have fin : ∀ kb : Bool, (X == 1) = kb → Calls Try.prog 11 #[.pointer (some ⟨d, 0, none⟩), .string (bs (nm j))] W0 fun e w' => e = .returned (.tuple #[.string (bs (if kb then dt else [])), .int .i64 (if kb then 0 else 25)]) ∧ W0 = w' := by
              intro kb hkb
              rw [hkb] at hget
              cases kb with
              | true => rw [hget] at hrd; exact hrd
              | false => rw [hget] at hrd; exact hrd
            have FIN := Lib.hid fin
            have HX2 := Lib.hid hX2
            clear fin hrd hget hX2
            have hdl : dt = (l[j]'hjl) ∨ dt = (l[j]'hjl).take ((l[j]'hjl).length / 2) := by rw [HDT.out]; unfold half; split; exact .inr rfl; exact .inl rfl
            cases torn with
            | false =>
              have e0 : (l[j]'hjl) = dt := HDT.out.symm
              rw [e0] at hc2
              cases hkb : (X == 1) with
              | true =>
                have hX1 : X = 1 := by simpa using hkb
                have hq : (X == 0) = false := by rw [hX1]; decide
                clear hX1
                have h0 := FIN.out true hkb
                simp only [if_true] at h0
                have HRD := Lib.hid h0
                clear h0
                go_wp2_with fail
                rw [← HW0.out]
                refine HRD.out.mono ?_
                rintro e w5 ⟨rfl, rfl⟩
                go_wp2_with fail
                exact ⟨⟨j + 1, hltj, by go_num, HD2.out, HBW2.out⟩, by simp [intOf]; omega⟩
              | false =>
                have h0 := FIN.out false hkb
                simp only [Bool.false_eq_true, if_false] at h0
                have HRD := Lib.hid h0
                clear h0
                have hX0 : X = 0 := by rcases HX2.out with h | h; exact h; rw [h] at hkb; exact absurd hkb (by decide)
                go_wp2_with fail
                rw [← HW0.out]
                refine HRD.out.mono ?_
                rintro e w5 ⟨rfl, rfl⟩
                go_wp2_with fail
                exact ⟨⟨j + 1, hltj, by go_num, HD2.out, HBW2.out⟩, by simp [intOf]; omega⟩
            | true =>
              cases hjL : ((j : Int) == LI) with
              | false =>
                have hne : ¬ (j : Int) = LI := by simpa using hjL
                have e0 : (l[j]'hjl) = dt := by rw [HDT.out]; simp [hne, half]
                rw [e0] at hc2
                cases hkb : (X == 1) with
                | true =>
                  have hX1 : X = 1 := by simpa using hkb
                  have hq : (X == 0) = false := by rw [hX1]; decide
                  clear hX1
                  have h0 := FIN.out true hkb
                  simp only [if_true] at h0
                  have HRD := Lib.hid h0
                  clear h0
                  go_wp2_with fail
                  rw [← HW0.out]
                  refine HRD.out.mono ?_
                  rintro e w5 ⟨rfl, rfl⟩
                  go_wp2_with fail
                  exact ⟨⟨j + 1, hltj, by go_num, HD2.out, HBW2.out⟩, by simp [intOf]; omega⟩
                | false =>
                  have h0 := FIN.out false hkb
                  simp only [Bool.false_eq_true, if_false] at h0
                  have HRD := Lib.hid h0
                  clear h0
                  have hX0 : X = 0 := by rcases HX2.out with h | h; exact h; rw [h] at hkb; exact absurd hkb (by decide)
                  go_wp2_with fail
                  rw [← HW0.out]
                  refine HRD.out.mono ?_
                  rintro e w5 ⟨rfl, rfl⟩
                  go_wp2_with fail
                  exact ⟨⟨j + 1, hltj, by go_num, HD2.out, HBW2.out⟩, by simp [intOf]; omega⟩
              | true =>
                have he : (j : Int) = LI := by simpa using hjL
                obtain ⟨m, hm⟩ : ∃ m, m = (l[j]'hjl).length / 2 := ⟨_, rfl⟩
                have e1 : (bs (l[j]'hjl)).extract 0 m = bs dt := by rw [HDT.out, bs_extract, hm]; simp [half, he]
                have e2 : (((l[j]'hjl).length : Nat) : Int) / 2 = ((m : Nat) : Int) := by omega
                have e3 : (m : Int) ≤ (l[j]'hjl).length := by omega
                have e4 : wrap64 (m : Int) = m := by unfold wrap64; omega
                obtain ⟨lj, hlj⟩ : ∃ lj, lj = (l[j]'hjl) := ⟨_, rfl⟩
                rw [← hlj] at e1 e2 e3 hc2
                clear hm hlj he
                cases hkb : (X == 1) with
                | true =>
                  have hX1 : X = 1 := by simpa using hkb
                  have hq : (X == 0) = false := by rw [hX1]; decide
                  clear hX1
                  have h0 := FIN.out true hkb
                  simp only [if_true] at h0
                  have HRD := Lib.hid h0
                  clear h0
                  go_wp2_with fail
                  rw [← HW0.out]
                  refine HRD.out.mono ?_
                  rintro e w5 ⟨rfl, rfl⟩
                  go_wp2_with fail
                  exact ⟨⟨j + 1, hltj, by go_num, HD2.out, HBW2.out⟩, by simp [intOf]; omega⟩
                | false =>
                  have h0 := FIN.out false hkb
                  simp only [Bool.false_eq_true, if_false] at h0
                  have HRD := Lib.hid h0
                  clear h0
                  have hX0 : X = 0 := by rcases HX2.out with h | h; exact h; rw [h] at hkb; exact absurd hkb (by decide)
                  go_wp2_with fail
                  rw [← HW0.out]
                  refine HRD.out.mono ?_
                  rintro e w5 ⟨rfl, rfl⟩
                  go_wp2_with fail
                  exact ⟨⟨j + 1, hltj, by go_num, HD2.out, HBW2.out⟩, by simp [intOf]; omega⟩
          · have hnot2 : decide (j < n) = false := by simp; omega
            have HBX2 := Lib.hid hB
            clear hD hB
            go_wp2_with fail
            refine (awake_any _).mono ?_
            rintro e w5 ⟨rfl, hb5⟩
            have HB5 := Lib.hid (HBX2.out.trans (hb5.mono HBX2.out.size))
            clear hb5
            go_wp2_with fail
            go_ret
            exact ⟨rfl, HB5.out⟩
end Go.Proofs.Yticgcpbblefacaa
