/- DiskLasts. -/
import Derived.Test.YticgcpbblefacaaDl
namespace Go.Proofs.Yticgcpbblefacaa
open Go.RowKit
attribute [local go_sem] bs_size bs_getElem bs_list bs_append

theorem read_let {B d nb fb : Nat} {v : Value} {st : DS} {w : World} (h : Dsk B w d nb fb v st) (hdead : st.dead = false) (name : Bytes) (h1 : 1 ≤ name.length) (h2 : name.length ≤ 24) :
    ∃ cg : Int, Calls Try.prog 11 #[.pointer (some ⟨d, 0, none⟩), .string (bs name)] w fun e w' => e = .returned (.tuple #[.string (bs ((get st.now name).getD [])), .int .i64 cg]) ∧ w = w' := ⟨_, read_any h hdead name h1 h2⟩
theorem read_some {B d nb fb : Nat} {v : Value} {st : DS} {w : World} {name x : Bytes} (h : Dsk B w d nb fb v st) (hdead : st.dead = false) (hg : get st.now name = some x) (h1 : 1 ≤ name.length) (h2 : name.length ≤ 24) :
    Calls Try.prog 11 #[.pointer (some ⟨d, 0, none⟩), .string (bs name)] w fun e w' => e = .returned (.tuple #[.string (bs x), .int .i64 0]) ∧ w = w' := by
  have := read_any h hdead name h1 h2
  rw [hg] at this
  exact this

set_option maxHeartbeats 8000000 in
set_option maxRecDepth 100000 in
theorem law_lasts (t : Bytes) (A : Option Addr) (n c : Nat) (xs : List OpR) (x y : Int) (w : World) (_ht : t.length ≤ 9223372036854775807) (hx : Sl w 5 OpC A n c xs) (hx0 : I64 x) (_hy0 : I64 y) :
    Calls Try.prog 5 #[.string (bs t), .slice A n c, .agg #[.int .i64 x, .int .i64 y]] w fun e w' => e = .returned (.bool true) ∧ Below w.heap.size w w' := by
  have hn : xs.length = n := hx.len
  have HX := Lib.hid hx
  have HX0 := Lib.hid hx0
  clear hx hx0
  obtain ⟨w0, hw0⟩ : ∃ w0, w0 = w.alloc (.cells #[.int .i64 x, .int .i64 y] 36) := ⟨_, rfl⟩
  have hb0 : Below w.heap.size w w0 := by rw [hw0]; exact (Below.refl _ w).alloc (Nat.le_refl _) _
  have hp : Blk w0 w.heap.size 36 #[.int .i64 x, .int .i64 y] := by rw [hw0]; exact Blk.new w 36 _
  have hplt := hp.lt
  have HW0 := Lib.hid hw0
  have HB0 := Lib.hid hb0
  have HP := Lib.hid hp
  clear hw0 hb0 hp
  by_cases hbig : 1000 < t.length
  case pos =>
    go_enter Try.func5, Try.ntmps5
    go_wp2_with fail
    rw [← HW0.out]
    refine (awake_any _).mono ?_
    rintro e w2 ⟨rfl, hb2⟩
    have HB2 := Lib.hid (HB0.out.trans (hb2.mono HB0.out.size))
    clear hb2
    go_wp2_with fail
    go_ret
    exact ⟨rfl, HB2.out⟩
  case neg =>
    have htl : t.length ≤ 1000 := by omega
    have hb1000 : decide ((1000 : Int) < (t.length : Int)) = false := by simp; omega
    go_enter Try.func5, Try.ntmps5
    go_wp2_with fail
    rw [← HW0.out]
    refine (new_any 1048576 (by decide) (by decide) w0).mono ?_
    rintro e w1 ⟨d, nb, fb, rfl, h1, hb1⟩
    have HB1 := Lib.hid hb1
    have HW1 := Lib.hid (write_ok (st := ⟨1048576, [], [], [], 0, false⟩) ⟨fileF', 0, t⟩ h1 rfl rfl (Nat.le_of_ble_eq_true rfl) (Nat.le_of_ble_eq_true rfl) (Nat.le_of_ble_eq_true rfl) (Nat.le_of_ble_eq_true rfl) (Nat.le_of_ble_eq_true rfl) (short_of rfl) (by show t.length ≤ _; omega) (Nat.le_of_ble_eq_true rfl) (by show tot [] + (0 + t.length) ≤ 1048576; simp [tot]; omega))
    clear h1 hb1
    go_wp2_with fail
    refine HW1.out.mono ?_
    rintro e w2 ⟨v2, rfl, h2, hb2⟩
    have HB2 := Lib.hid (HB1.out.trans hb2)
    have hnow : (wrote ⟨1048576, [], [], [], 0, false⟩ ⟨fileF', 0, t⟩).now = [(fileF', t)] := by
      show [(fileF', laidL [] 0 t)] = _
      rw [laid_first']
    have hsy := sync_any h2 rfl rfl
    have HSY := Lib.hid hsy
    have HNOW := Lib.hid hnow
    clear h2 hb2 hsy hnow
    go_wp2_with fail
    refine HSY.out.mono ?_
    rintro e w3 ⟨fb3, rfl, h3, hb3⟩
    have HB3 := Lib.hid (HB2.out.trans hb3)
    have hpx : w3.cell? ⟨w.heap.size, 0, none⟩ = some (.int .i64 x) := (HB3.out.cell (p := ⟨w.heap.size, 0, none⟩) hplt).trans (HP.out.cell 0)
    have harm := arm_any h3 x
    rw [HNOW.out] at harm
    have HARM := Lib.hid harm
    clear h3 hb3 harm
    go_wp2_with fail
    refine HARM.out.mono ?_
    rintro e w4 ⟨rfl, h4, hg4⟩
    have hbd := h4.bd
    have HB4 := Lib.hid (HB3.out.grown hg4 HB3.out.size (fun k hk => by cases hk; exact hbd))
    have hI4 : LI t 0 ⟨1048576, [(fileF', t)], [(fileF', t)], [], max x 0, false⟩ := by
      refine ⟨rfl, rfl, (fun _ h => by cases h), Nat.le_refl _, ?_, ?_, (fun _ => rfl), ?_⟩
      · simp [tot]; omega
      · intro e he
        cases List.mem_singleton.1 he
        show t.length ≤ _
        omega
      · have := HX0.out
        unfold I64 at this
        show max x 0 ≤ _
        omega
    have HI4 := Lib.hid hI4
    have H4 : Hid (Dsk w0.heap.size w4 d nb fb3 (.slice none 0 0) ⟨1048576, [(fileF', t)], [(fileF', t)], [], max x 0, false⟩) := Lib.hid h4
    clear h4 hg4 hI4 hpx hbd
    go_wp2_with fail
    go_loopw [9] (fun i wr => ∃ (k : Nat) (st : DS) (v : Value), k ≤ n ∧ k ≤ 40 ∧ i = .int .i64 (k : Nat) ∧ LI t (2 * k) st ∧ Dsk w0.heap.size wr d nb fb3 v st ∧ Below w0.heap.size w0 wr) (fun i _ => n - (intOf i).toNat)
    case atStart => exact ⟨0, _, _, Nat.zero_le _, Nat.zero_le _, rfl, HI4.out, H4.out, HB4.out⟩
    case round =>
      obtain ⟨k, st, v, hk, hk40, rfl, hI, hD, hB⟩ := hrel
      have HI := Lib.hid hI
      have HD := Lib.hid hD
      have HBX := Lib.hid hB
      by_cases hgo : k < n ∧ k < 40
      case pos =>
        obtain ⟨hlt, hlt40⟩ := hgo
        obtain ⟨b, off, rfl, hbl, a0, a1, a2, a3, a4, hdl⟩ := Sl.op_at HX.out (by omega : k < xs.length)
        have hbw := HB0.out.trans (hB.mono HB0.out.size)
        have a0 := cell_below hbw hbl a0
        have a1 := cell_below hbw hbl a1
        have a2 := cell_below hbw hbl a2
        have a3 := cell_below hbw hbl a3
        have a4 := cell_below hbw hbl a4
        generalize xs[k]'(by omega) = r at *
        obtain ⟨ra, rn, rk, rd, rt⟩ := r
        simp only at a0 a1 a2 a3 a4 hdl
        obtain ⟨w5, hw5⟩ : ∃ w5, w5 = wr.alloc (.cells #[.int .i64 ra, .string (bs rn), .int .i64 rk, .string (bs rd), .bool rt] 40) := ⟨_, rfl⟩
        have hb5 : Below wr.heap.size wr w5 := by rw [hw5]; exact (Below.refl _ _).alloc (Nat.le_refl _) _
        have hq : Blk w5 wr.heap.size 40 #[.int .i64 ra, .string (bs rn), .int .i64 rk, .string (bs rd), .bool rt] := by rw [hw5]; exact Blk.new wr 40 _
        have f2 := hq.cell 2
        have f3 := hq.cell 3
        simp at f2 f3
        have HQ := Lib.hid hq
        have HW5 := Lib.hid hw5
        have H5 := Lib.hid (hD.later hb5)
        have HB5 := Lib.hid (hB.trans (hb5.mono hB.size))
        clear hw5 hb5 hI hD hB hbw hq
        have hk40i : (k : Int) < 40 := by omega
        by_cases hok : rd.length ≤ 1000 ∧ 0 ≤ rk ∧ rk ≤ 1000
        case neg =>
          have HOK := Lib.hid hok
          have fin : ∀ W, W = w5 → Calls Try.prog 8 #[] W fun e w' => e = .returned (.bool true) ∧ Below w.heap.size w w' := by
            rintro W rfl
            exact (awake_any W).mono fun e w' ⟨he, hb⟩ => ⟨he, (HB0.out.trans (HB5.out.mono HB0.out.size)).trans (hb.mono (Nat.le_trans HB0.out.size HB5.out.size))⟩
          have FIN := Lib.hid fin
          clear fin hok
          by_cases c1 : 1000 < rd.length
          case' neg =>
            have c1' : ¬ 1000 < rd.length := c1
            by_cases c2 : rk < 0
            case' neg =>
              have c3 : 1000 < rk := by have := HOK.out; omega
          all_goals
            go_wp2_with fail
            rw [← HW5.out]
            go_wp2_with fail
            refine (FIN.out _ rfl).mono ?_
            rintro e w6 ⟨rfl, hb6⟩
            have HB6 := Lib.hid hb6
            clear hb6
            go_wp2_with fail
            go_ret
            exact ⟨rfl, HB6.out⟩
        case pos =>
          obtain ⟨o1, o2, o3⟩ := hok
          obtain ⟨kk, rfl⟩ : ∃ kk : Nat, rk = (kk : Int) := ⟨rk.toNat, by omega⟩
          have o3' : kk ≤ 1000 := by omega
          have hw1 := write_law (t := t) (m := 2 * k) ⟨fileF', t.length + kk, rd⟩ H5.out HI.out (by omega) ⟨.inl ⟨rfl, by show t.length ≤ t.length + kk; omega⟩, by show t.length + kk ≤ 2000; omega, o1⟩
          rw [show (((⟨fileF', t.length + kk, rd⟩ : Wr).at_ : Nat) : Int) = (t.length : Int) + (kk : Int) from by show ((t.length + kk : Nat) : Int) = _; omega] at hw1
          have HWa := Lib.hid hw1
          clear hw1
          have hltn : (k : Int) < (n : Int) := by omega
          go_wp2_with fail
          rw [← HW5.out]
          go_wp2_with fail
          refine HWa.out.mono ?_
          rintro e w6 ⟨code1, v6, st6, rfl, hI6, hD6, hb6, hf6⟩
          have hq6 := hf6 wr.heap.size 40 _ (by decide) (by decide) HQ.out
          have g2 := hq6.cell 2
          have g3 := hq6.cell 3
          simp at g2 g3
          have HB6 := Lib.hid (HB5.out.trans hb6)
          have HWb := Lib.hid (write_law (t := t) (m := 2 * k + 1) ⟨fileG, kk, rd⟩ hD6 hI6 (by omega) ⟨.inr rfl, by show kk ≤ 2000; omega, o1⟩)
          clear hI6 hD6 hb6 hf6 hq6
          go_wp2_with fail
          refine HWb.out.mono ?_
          rintro e w7 ⟨code2, v7, st7, rfl, hI7, hD7, hb7, _⟩
          have HI7 := Lib.hid hI7
          have HD7 := Lib.hid hD7
          have HB7 := Lib.hid (HB6.out.trans hb7)
          clear hI7 hD7 hb7
          go_wp2_with fail
          exact ⟨⟨k + 1, st7, v7, hlt, by omega, by go_num, HI7.out, HD7.out, HB7.out⟩, by simp [intOf]; omega⟩
      case neg =>
        have hI' := hI
        have hkf : Short 100000000 st.firm := by
          rw [hI'.firm]
          intro e he
          cases List.mem_singleton.1 he
          show t.length ≤ _
          omega
        have hal : ∀ a ∈ st.acts, a.at_ + a.data.length ≤ 100000000 ∧ a.at_ ≤ 8192 := fun a ha => by
          have := (hI'.acts a ha).2
          omega
        have hlen := hI'.len
        have hcr := crash_any hD y false (by omega) hkf hal
        have hpre : ∀ fs, fs = runN st.firm false (kept (kbit y) 0 st.acts) (kept (kbit y) 0 st.acts).length → HasPre t fs := by
          rintro fs rfl
          refine HasPre.run ?_ (fun a ha => hI'.acts a (kept_mem ha)) false _
          rw [hI'.firm]
          exact ⟨[], by rw [List.append_nil]; rfl⟩
        have hshort : ∀ fs, fs = runN st.firm false (kept (kbit y) 0 st.acts) (kept (kbit y) 0 st.acts).length → Short 100000000 fs := by
          rintro fs rfl
          exact hkf.run (fun a ha => (hal a (kept_mem ha)).1) false _
        have hdc := dead_any hD
        have hpy0 : wr.cell? ⟨w.heap.size, 1, none⟩ = some (.int .i64 y) := (hB.cell (p := ⟨w.heap.size, 1, none⟩) hplt).trans (HP.out.cell 1)
        obtain ⟨Z, hZ⟩ : ∃ Z, bits BinOp.and IntKind.i64 y 1073741823 = Z := ⟨_, rfl⟩
        have HCR := Lib.hid hcr
        have HPRE := Lib.hid hpre
        have HSH := Lib.hid hshort
        have hend : ¬ (k < n) ∨ (k < n ∧ ¬ k < 40) := by omega
        clear hcr hpre hshort hal hkf hB HI
        cases hdd : st.dead with
        | true =>
          rw [hdd] at hdc
          have HDC := Lib.hid hdc
          clear hdc hI hI' hD HD
          rcases hend with hend | ⟨hkl, hend⟩
          · have hkn : decide (k < n) = false := by simpa using hend
            go_wp2_with fail
            refine HDC.out.mono ?_
            rintro e w8 ⟨rfl, rfl⟩
            go_wp2_with fail
            refine HCR.out.mono ?_
            rintro e w10 ⟨nb', fs, rfl, hfs, h10, hb10⟩
            obtain ⟨u, hu⟩ := HPRE.out fs hfs
            obtain ⟨U, hU⟩ : ∃ U, U = t ++ u := ⟨_, rfl⟩
            rw [← hU] at hu
            have hUl : t.length ≤ U.length := by rw [hU]; simp
            have hUe : (bs U).extract 0 t.length = bs t := by rw [bs_extract, hU]; simp
            have hsh10 := HSH.out fs hfs
            have HRF := Lib.hid (read_some h10 rfl hu (Nat.le_of_ble_eq_true rfl) (Nat.le_of_ble_eq_true rfl))
            have HDD := Lib.hid (dead_any h10)
            obtain ⟨cg, hrg⟩ := read_let h10 rfl fileG (Nat.le_of_ble_eq_true rfl) (Nat.le_of_ble_eq_true rfl)
            obtain ⟨V, hV⟩ : ∃ V, V = (get fs fileG).getD [] := ⟨_, rfl⟩
            rw [← hV] at hrg
            have HRG := Lib.hid hrg
            have HC2 := Lib.hid (crash_any h10 0 true (Nat.zero_le _) hsh10 (fun _ h => by cases h))
            have HB10 := Lib.hid (HBX.out.trans hb10)
            have hpy : w10.cell? ⟨w.heap.size, 1, none⟩ = some (.int .i64 y) := (HB10.out.cell (p := ⟨w.heap.size, 1, none⟩) hplt).trans (HP.out.cell 1)
            have HU := Lib.hid hu
            clear h10 hb10 hrg hU hu hsh10 hV hfs
            go_wp2_with fail
            refine HRF.out.mono ?_
            rintro e w11 ⟨rfl, rfl⟩
            go_wp2_with fail
            refine HDD.out.mono ?_
            rintro e w11 ⟨rfl, rfl⟩
            go_wp2_with fail
            refine HRG.out.mono ?_
            rintro e w11 ⟨rfl, rfl⟩
            go_wp2_with fail
            refine HC2.out.mono ?_
            rintro e w12 ⟨nb2, fs2, rfl, hfs2, h12, hb12⟩
            obtain rfl : fs2 = fs := hfs2
            have HRF2 := Lib.hid (read_some h12 rfl HU.out (Nat.le_of_ble_eq_true rfl) (Nat.le_of_ble_eq_true rfl))
            have HB12 := Lib.hid (HB0.out.trans ((HB10.out.trans hb12).mono HB0.out.size))
            clear h12 hb12
            go_wp2_with fail
            refine HRF2.out.mono ?_
            rintro e w13 ⟨rfl, rfl⟩
            go_wp2_with fail
            refine (awake_any _).mono ?_
            rintro e w14 ⟨rfl, hb14⟩
            have HB14 := Lib.hid (HB12.out.trans (hb14.mono HB12.out.size))
            clear hb14
            go_wp2_with fail
            go_ret
            exact ⟨rfl, HB14.out⟩
          · have hk40' : ¬ (k : Int) < 40 := by omega
            have hkn : decide (k < n) = true := by simpa using hkl
            go_wp2_with fail
            refine HDC.out.mono ?_
            rintro e w8 ⟨rfl, rfl⟩
            go_wp2_with fail
            refine HCR.out.mono ?_
            rintro e w10 ⟨nb', fs, rfl, hfs, h10, hb10⟩
            obtain ⟨u, hu⟩ := HPRE.out fs hfs
            obtain ⟨U, hU⟩ : ∃ U, U = t ++ u := ⟨_, rfl⟩
            rw [← hU] at hu
            have hUl : t.length ≤ U.length := by rw [hU]; simp
            have hUe : (bs U).extract 0 t.length = bs t := by rw [bs_extract, hU]; simp
            have hsh10 := HSH.out fs hfs
            have HRF := Lib.hid (read_some h10 rfl hu (Nat.le_of_ble_eq_true rfl) (Nat.le_of_ble_eq_true rfl))
            have HDD := Lib.hid (dead_any h10)
            obtain ⟨cg, hrg⟩ := read_let h10 rfl fileG (Nat.le_of_ble_eq_true rfl) (Nat.le_of_ble_eq_true rfl)
            obtain ⟨V, hV⟩ : ∃ V, V = (get fs fileG).getD [] := ⟨_, rfl⟩
            rw [← hV] at hrg
            have HRG := Lib.hid hrg
            have HC2 := Lib.hid (crash_any h10 0 true (Nat.zero_le _) hsh10 (fun _ h => by cases h))
            have HB10 := Lib.hid (HBX.out.trans hb10)
            have hpy : w10.cell? ⟨w.heap.size, 1, none⟩ = some (.int .i64 y) := (HB10.out.cell (p := ⟨w.heap.size, 1, none⟩) hplt).trans (HP.out.cell 1)
            have HU := Lib.hid hu
            clear h10 hb10 hrg hU hu hsh10 hV hfs
            go_wp2_with fail
            refine HRF.out.mono ?_
            rintro e w11 ⟨rfl, rfl⟩
            go_wp2_with fail
            refine HDD.out.mono ?_
            rintro e w11 ⟨rfl, rfl⟩
            go_wp2_with fail
            refine HRG.out.mono ?_
            rintro e w11 ⟨rfl, rfl⟩
            go_wp2_with fail
            refine HC2.out.mono ?_
            rintro e w12 ⟨nb2, fs2, rfl, hfs2, h12, hb12⟩
            obtain rfl : fs2 = fs := hfs2
            have HRF2 := Lib.hid (read_some h12 rfl HU.out (Nat.le_of_ble_eq_true rfl) (Nat.le_of_ble_eq_true rfl))
            have HB12 := Lib.hid (HB0.out.trans ((HB10.out.trans hb12).mono HB0.out.size))
            clear h12 hb12
            go_wp2_with fail
            refine HRF2.out.mono ?_
            rintro e w13 ⟨rfl, rfl⟩
            go_wp2_with fail
            refine (awake_any _).mono ?_
            rintro e w14 ⟨rfl, hb14⟩
            have HB14 := Lib.hid (HB12.out.trans (hb14.mono HB12.out.size))
            clear hb14
            go_wp2_with fail
            go_ret
            exact ⟨rfl, HB14.out⟩
        | false =>
          rw [hdd] at hdc
          have HDC := Lib.hid hdc
          obtain ⟨c1, hr1⟩ := read_let hD hdd fileF' (Nat.le_of_ble_eq_true rfl) (Nat.le_of_ble_eq_true rfl)
          obtain ⟨c2, hr2⟩ := read_let hD hdd fileG (Nat.le_of_ble_eq_true rfl) (Nat.le_of_ble_eq_true rfl)
          obtain ⟨S, hS⟩ : ∃ S, S = (get st.now fileF').getD [] := ⟨_, rfl⟩
          obtain ⟨G, hG⟩ : ∃ G, G = (get st.now fileG).getD [] := ⟨_, rfl⟩
          rw [← hS] at hr1
          rw [← hG] at hr2
          have HR1 := Lib.hid hr1
          have HR2 := Lib.hid hr2
          have hsame : y % 1073741824 = 1073741823 → ∀ fs, fs = runN st.firm false (kept (kbit y) 0 st.acts) (kept (kbit y) 0 st.acts).length → S = (get fs fileF').getD [] ∧ G = (get fs fileG).getD [] := by
            rintro hy fs rfl
            rw [kept_all _ (fun i => kbit_all y hy i), ← hI'.live hdd]
            exact ⟨hS, hG⟩
          have HSAME := Lib.hid hsame
          have HZ := Lib.hid hZ
          clear hdc hI hI' hD HD hr1 hr2 hS hG hsame
          cases hz : (Z == 1073741823) with
          | false =>
            rcases hend with hend | ⟨hkl, hend⟩
            · have hkn : decide (k < n) = false := by simpa using hend
              go_wp2_with fail
              refine HDC.out.mono ?_
              rintro e w8 ⟨rfl, rfl⟩
              go_wp2_with fail
              refine HR1.out.mono ?_
              rintro e w8 ⟨rfl, rfl⟩
              go_wp2_with fail
              refine HR2.out.mono ?_
              rintro e w8 ⟨rfl, rfl⟩
              go_wp2_with fail
              refine HCR.out.mono ?_
              rintro e w10 ⟨nb', fs, rfl, hfs, h10, hb10⟩
              obtain ⟨u, hu⟩ := HPRE.out fs hfs
              obtain ⟨U, hU⟩ : ∃ U, U = t ++ u := ⟨_, rfl⟩
              rw [← hU] at hu
              have hUl : t.length ≤ U.length := by rw [hU]; simp
              have hUe : (bs U).extract 0 t.length = bs t := by rw [bs_extract, hU]; simp
              have hsh10 := HSH.out fs hfs
              have HRF := Lib.hid (read_some h10 rfl hu (Nat.le_of_ble_eq_true rfl) (Nat.le_of_ble_eq_true rfl))
              have HDD := Lib.hid (dead_any h10)
              obtain ⟨cg, hrg⟩ := read_let h10 rfl fileG (Nat.le_of_ble_eq_true rfl) (Nat.le_of_ble_eq_true rfl)
              obtain ⟨V, hV⟩ : ∃ V, V = (get fs fileG).getD [] := ⟨_, rfl⟩
              rw [← hV] at hrg
              have HRG := Lib.hid hrg
              have HC2 := Lib.hid (crash_any h10 0 true (Nat.zero_le _) hsh10 (fun _ h => by cases h))
              have HB10 := Lib.hid (HBX.out.trans hb10)
              have hpy : w10.cell? ⟨w.heap.size, 1, none⟩ = some (.int .i64 y) := (HB10.out.cell (p := ⟨w.heap.size, 1, none⟩) hplt).trans (HP.out.cell 1)
              have HU := Lib.hid hu
              clear h10 hb10 hrg hU hu hsh10 hV hfs
              go_wp2_with fail
              refine HRF.out.mono ?_
              rintro e w11 ⟨rfl, rfl⟩
              go_wp2_with fail
              refine HDD.out.mono ?_
              rintro e w11 ⟨rfl, rfl⟩
              go_wp2_with fail
              refine HRG.out.mono ?_
              rintro e w11 ⟨rfl, rfl⟩
              go_wp2_with fail
              refine HC2.out.mono ?_
              rintro e w12 ⟨nb2, fs2, rfl, hfs2, h12, hb12⟩
              obtain rfl : fs2 = fs := hfs2
              have HRF2 := Lib.hid (read_some h12 rfl HU.out (Nat.le_of_ble_eq_true rfl) (Nat.le_of_ble_eq_true rfl))
              have HB12 := Lib.hid (HB0.out.trans ((HB10.out.trans hb12).mono HB0.out.size))
              clear h12 hb12
              go_wp2_with fail
              refine HRF2.out.mono ?_
              rintro e w13 ⟨rfl, rfl⟩
              go_wp2_with fail
              refine (awake_any _).mono ?_
              rintro e w14 ⟨rfl, hb14⟩
              have HB14 := Lib.hid (HB12.out.trans (hb14.mono HB12.out.size))
              clear hb14
              go_wp2_with fail
              go_ret
              exact ⟨rfl, HB14.out⟩
            · have hk40' : ¬ (k : Int) < 40 := by omega
              have hkn : decide (k < n) = true := by simpa using hkl
              go_wp2_with fail
              refine HDC.out.mono ?_
              rintro e w8 ⟨rfl, rfl⟩
              go_wp2_with fail
              refine HR1.out.mono ?_
              rintro e w8 ⟨rfl, rfl⟩
              go_wp2_with fail
              refine HR2.out.mono ?_
              rintro e w8 ⟨rfl, rfl⟩
              go_wp2_with fail
              refine HCR.out.mono ?_
              rintro e w10 ⟨nb', fs, rfl, hfs, h10, hb10⟩
              obtain ⟨u, hu⟩ := HPRE.out fs hfs
              obtain ⟨U, hU⟩ : ∃ U, U = t ++ u := ⟨_, rfl⟩
              rw [← hU] at hu
              have hUl : t.length ≤ U.length := by rw [hU]; simp
              have hUe : (bs U).extract 0 t.length = bs t := by rw [bs_extract, hU]; simp
              have hsh10 := HSH.out fs hfs
              have HRF := Lib.hid (read_some h10 rfl hu (Nat.le_of_ble_eq_true rfl) (Nat.le_of_ble_eq_true rfl))
              have HDD := Lib.hid (dead_any h10)
              obtain ⟨cg, hrg⟩ := read_let h10 rfl fileG (Nat.le_of_ble_eq_true rfl) (Nat.le_of_ble_eq_true rfl)
              obtain ⟨V, hV⟩ : ∃ V, V = (get fs fileG).getD [] := ⟨_, rfl⟩
              rw [← hV] at hrg
              have HRG := Lib.hid hrg
              have HC2 := Lib.hid (crash_any h10 0 true (Nat.zero_le _) hsh10 (fun _ h => by cases h))
              have HB10 := Lib.hid (HBX.out.trans hb10)
              have hpy : w10.cell? ⟨w.heap.size, 1, none⟩ = some (.int .i64 y) := (HB10.out.cell (p := ⟨w.heap.size, 1, none⟩) hplt).trans (HP.out.cell 1)
              have HU := Lib.hid hu
              clear h10 hb10 hrg hU hu hsh10 hV hfs
              go_wp2_with fail
              refine HRF.out.mono ?_
              rintro e w11 ⟨rfl, rfl⟩
              go_wp2_with fail
              refine HDD.out.mono ?_
              rintro e w11 ⟨rfl, rfl⟩
              go_wp2_with fail
              refine HRG.out.mono ?_
              rintro e w11 ⟨rfl, rfl⟩
              go_wp2_with fail
              refine HC2.out.mono ?_
              rintro e w12 ⟨nb2, fs2, rfl, hfs2, h12, hb12⟩
              obtain rfl : fs2 = fs := hfs2
              have HRF2 := Lib.hid (read_some h12 rfl HU.out (Nat.le_of_ble_eq_true rfl) (Nat.le_of_ble_eq_true rfl))
              have HB12 := Lib.hid (HB0.out.trans ((HB10.out.trans hb12).mono HB0.out.size))
              clear h12 hb12
              go_wp2_with fail
              refine HRF2.out.mono ?_
              rintro e w13 ⟨rfl, rfl⟩
              go_wp2_with fail
              refine (awake_any _).mono ?_
              rintro e w14 ⟨rfl, hb14⟩
              have HB14 := Lib.hid (HB12.out.trans (hb14.mono HB12.out.size))
              clear hb14
              go_wp2_with fail
              go_ret
              exact ⟨rfl, HB14.out⟩
          | true =>
            have hy : y % 1073741824 = 1073741823 := by
              have e1 : Z = 1073741823 := by simpa using hz
              rw [← and_all, HZ.out, e1]
            rcases hend with hend | ⟨hkl, hend⟩
            · have hkn : decide (k < n) = false := by simpa using hend
              go_wp2_with fail
              refine HDC.out.mono ?_
              rintro e w8 ⟨rfl, rfl⟩
              go_wp2_with fail
              refine HR1.out.mono ?_
              rintro e w8 ⟨rfl, rfl⟩
              go_wp2_with fail
              refine HR2.out.mono ?_
              rintro e w8 ⟨rfl, rfl⟩
              go_wp2_with fail
              refine HCR.out.mono ?_
              rintro e w10 ⟨nb', fs, rfl, hfs, h10, hb10⟩
              obtain ⟨u, hu⟩ := HPRE.out fs hfs
              obtain ⟨U, hU⟩ : ∃ U, U = t ++ u := ⟨_, rfl⟩
              rw [← hU] at hu
              have hUl : t.length ≤ U.length := by rw [hU]; simp
              have hUe : (bs U).extract 0 t.length = bs t := by rw [bs_extract, hU]; simp
              have hsh10 := HSH.out fs hfs
              have HRF := Lib.hid (read_some h10 rfl hu (Nat.le_of_ble_eq_true rfl) (Nat.le_of_ble_eq_true rfl))
              have HDD := Lib.hid (dead_any h10)
              obtain ⟨cg, hrg⟩ := read_let h10 rfl fileG (Nat.le_of_ble_eq_true rfl) (Nat.le_of_ble_eq_true rfl)
              obtain ⟨V, hV⟩ : ∃ V, V = (get fs fileG).getD [] := ⟨_, rfl⟩
              rw [← hV] at hrg
              have HRG := Lib.hid hrg
              have HC2 := Lib.hid (crash_any h10 0 true (Nat.zero_le _) hsh10 (fun _ h => by cases h))
              have HB10 := Lib.hid (HBX.out.trans hb10)
              have hpy : w10.cell? ⟨w.heap.size, 1, none⟩ = some (.int .i64 y) := (HB10.out.cell (p := ⟨w.heap.size, 1, none⟩) hplt).trans (HP.out.cell 1)
              have HU := Lib.hid hu
              obtain ⟨eS, eG⟩ := HSAME.out hy fs hfs
              rw [HU.out] at eS
              rw [← hV] at eG
              simp only [Option.getD_some] at eS
              subst eS
              subst eG
              clear h10 hb10 hrg hU hu hsh10 hV hfs
              go_wp2_with fail
              refine HRF.out.mono ?_
              rintro e w11 ⟨rfl, rfl⟩
              go_wp2_with fail
              refine HDD.out.mono ?_
              rintro e w11 ⟨rfl, rfl⟩
              go_wp2_with fail
              refine HRG.out.mono ?_
              rintro e w11 ⟨rfl, rfl⟩
              go_wp2_with fail
              refine HC2.out.mono ?_
              rintro e w12 ⟨nb2, fs2, rfl, hfs2, h12, hb12⟩
              obtain rfl : fs2 = fs := hfs2
              have HRF2 := Lib.hid (read_some h12 rfl HU.out (Nat.le_of_ble_eq_true rfl) (Nat.le_of_ble_eq_true rfl))
              have HB12 := Lib.hid (HB0.out.trans ((HB10.out.trans hb12).mono HB0.out.size))
              clear h12 hb12
              go_wp2_with fail
              refine HRF2.out.mono ?_
              rintro e w13 ⟨rfl, rfl⟩
              go_wp2_with fail
              refine (awake_any _).mono ?_
              rintro e w14 ⟨rfl, hb14⟩
              have HB14 := Lib.hid (HB12.out.trans (hb14.mono HB12.out.size))
              clear hb14
              go_wp2_with fail
              go_ret
              exact ⟨rfl, HB14.out⟩
            · have hk40' : ¬ (k : Int) < 40 := by omega
              have hkn : decide (k < n) = true := by simpa using hkl
              go_wp2_with fail
              refine HDC.out.mono ?_
              rintro e w8 ⟨rfl, rfl⟩
              go_wp2_with fail
              refine HR1.out.mono ?_
              rintro e w8 ⟨rfl, rfl⟩
              go_wp2_with fail
              refine HR2.out.mono ?_
              rintro e w8 ⟨rfl, rfl⟩
              go_wp2_with fail
              refine HCR.out.mono ?_
              rintro e w10 ⟨nb', fs, rfl, hfs, h10, hb10⟩
              obtain ⟨u, hu⟩ := HPRE.out fs hfs
              obtain ⟨U, hU⟩ : ∃ U, U = t ++ u := ⟨_, rfl⟩
              rw [← hU] at hu
              have hUl : t.length ≤ U.length := by rw [hU]; simp
              have hUe : (bs U).extract 0 t.length = bs t := by rw [bs_extract, hU]; simp
              have hsh10 := HSH.out fs hfs
              have HRF := Lib.hid (read_some h10 rfl hu (Nat.le_of_ble_eq_true rfl) (Nat.le_of_ble_eq_true rfl))
              have HDD := Lib.hid (dead_any h10)
              obtain ⟨cg, hrg⟩ := read_let h10 rfl fileG (Nat.le_of_ble_eq_true rfl) (Nat.le_of_ble_eq_true rfl)
              obtain ⟨V, hV⟩ : ∃ V, V = (get fs fileG).getD [] := ⟨_, rfl⟩
              rw [← hV] at hrg
              have HRG := Lib.hid hrg
              have HC2 := Lib.hid (crash_any h10 0 true (Nat.zero_le _) hsh10 (fun _ h => by cases h))
              have HB10 := Lib.hid (HBX.out.trans hb10)
              have hpy : w10.cell? ⟨w.heap.size, 1, none⟩ = some (.int .i64 y) := (HB10.out.cell (p := ⟨w.heap.size, 1, none⟩) hplt).trans (HP.out.cell 1)
              have HU := Lib.hid hu
              obtain ⟨eS, eG⟩ := HSAME.out hy fs hfs
              rw [HU.out] at eS
              rw [← hV] at eG
              simp only [Option.getD_some] at eS
              subst eS
              subst eG
              clear h10 hb10 hrg hU hu hsh10 hV hfs
              go_wp2_with fail
              refine HRF.out.mono ?_
              rintro e w11 ⟨rfl, rfl⟩
              go_wp2_with fail
              refine HDD.out.mono ?_
              rintro e w11 ⟨rfl, rfl⟩
              go_wp2_with fail
              refine HRG.out.mono ?_
              rintro e w11 ⟨rfl, rfl⟩
              go_wp2_with fail
              refine HC2.out.mono ?_
              rintro e w12 ⟨nb2, fs2, rfl, hfs2, h12, hb12⟩
              obtain rfl : fs2 = fs := hfs2
              have HRF2 := Lib.hid (read_some h12 rfl HU.out (Nat.le_of_ble_eq_true rfl) (Nat.le_of_ble_eq_true rfl))
              have HB12 := Lib.hid (HB0.out.trans ((HB10.out.trans hb12).mono HB0.out.size))
              clear h12 hb12
              go_wp2_with fail
              refine HRF2.out.mono ?_
              rintro e w13 ⟨rfl, rfl⟩
              go_wp2_with fail
              refine (awake_any _).mono ?_
              rintro e w14 ⟨rfl, hb14⟩
              have HB14 := Lib.hid (HB12.out.trans (hb14.mono HB12.out.size))
              clear hb14
              go_wp2_with fail
              go_ret
              exact ⟨rfl, HB14.out⟩
end Go.Proofs.Yticgcpbblefacaa
