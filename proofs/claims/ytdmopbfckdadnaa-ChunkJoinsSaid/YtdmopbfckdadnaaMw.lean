/- Manifest of both. -/
import Derived.Test.YtdmopbfckdadnaaRc
import Derived.Test.YtdmopbfckdadnaaShKey
namespace Go.Proofs.Ytdmopbfckdadnaa
open Go.RowKit
attribute [local go_sem] bs_size bs_getElem bs_list bs_append

def ManP (w : World) (d : List UInt8) (e : Ending) (w' : World) : Prop := e = .returned (.tuple #[.string (bs (if d.length ≤ 4096 ∧ d ≠ [] then manL d else [])), .int .i64 (if d.length ≤ 4096 then 0 else 40)]) ∧ Below w.heap.size w w'
theorem ManP.big {w w' : World} {d : List UInt8} (h : ¬ d.length ≤ 4096) (hb : Below w.heap.size w w') : ManP w d (.returned (.tuple #[.string ⟨#[]⟩, .int .i64 40])) w' := by
  unfold ManP; rw [if_neg (fun h' => h h'.1), if_neg h]; exact ⟨rfl, hb⟩
theorem ManP.nil_ {w w' : World} (hb : Below w.heap.size w w') : ManP w [] (.returned (.tuple #[.string ⟨#[]⟩, .int .i64 0])) w' := by
  unfold ManP; exact ⟨rfl, hb⟩
theorem ManP.yes {w w' : World} {d : List UInt8} (h : d.length ≤ 4096) (h0 : d ≠ []) {s : List UInt8} (hs : s = manL d) (hb : Below w.heap.size w w') : ManP w d (.returned (.tuple #[.string (bs s), .int .i64 0])) w' := by
  unfold ManP; rw [if_pos ⟨h, h0⟩, if_pos h, hs]; exact ⟨rfl, hb⟩
/-- what has been written of a manifest -/
def manK (d : List UInt8) (k : Nat) : List UInt8 := Cd.numL d.length ++ (cutK d k).flatMap keyL
theorem manK_zero (d : List UInt8) : manK d 0 = Cd.numL d.length := by simp [manK, cutK]
theorem manK_succ (d : List UInt8) (k : Nat) : manK d (k + 1) = manK d k ++ keyL (piece d k) := by
  unfold manK; rw [cutK_succ, List.flatMap_append, List.append_assoc]; simp
theorem manK_all (d : List UInt8) : manK d (pieces d.length) = manL d := rfl
theorem manK_len (d : List UInt8) (k : Nat) : (manK d k).length ≤ 9 + 32 * k := by
  have h9 : (Cd.numL (d.length : Int)).length ≤ 9 := Cd.numU_len _
  induction k with
  | zero => rw [manK_zero]; omega
  | succ k ih => rw [manK_succ, List.length_append, keyL_len]; omega

set_option maxRecDepth 100000 in
set_option maxHeartbeats 1600000 in
theorem rman_any (d : List UInt8) (hd : d.length ≤ 1000000) (w : World) : Calls Try.prog 10 #[.string (bs d)] w (ManP w d) := by
  by_cases hbig : d.length ≤ 4096
  case neg =>
    have hq : decide ((d.length : Int) > 4096) = true := decide_eq_true (by omega)
    have HB := Lib.hid hbig
    clear hbig
    go_enter Try.func10, Try.ntmps10
    go_wp2_with fail
    go_ret2
    exact ManP.big HB.out (Below.refl _ _)
  have hq : decide ((d.length : Int) > 4096) = false := decide_eq_false (by omega)
  by_cases h0 : d = []
  · subst h0
    go_enter Try.func10, Try.ntmps10
    go_wp2_with fail
    go_ret2
    exact ManP.nil_ (Below.refl _ _)
  have hem : d.isEmpty = false := by cases d <;> simp_all
  have H0 := Lib.hid h0
  have HBig := Lib.hid hbig
  have HNum := Lib.hid (fun w => Cd.num_r (d.length : Int) w (by omega))
  rw [← manK_zero] at HNum
  have hsh := short_piece d
  have HSh := Lib.hid hsh
  have HCut := Lib.hid (rcut_any d hd)
  have HKey := Lib.hid (fun (s : List UInt8) (h : s.length ≤ 256) (w : World) => key_r s (by omega) w)
  have hpl : pieces d.length ≤ 16 := by unfold pieces; omega
  have hcl := cutL_length d
  clear h0 hbig hsh
  go_enter Try.func10, Try.ntmps10
  go_wp2_with fail
  refine (HNum.out w).mono ?_
  rintro e w1 ⟨rfl, hb1⟩
  have HB1 := Lib.hid hb1
  clear hb1
  go_wp2_with fail
  refine (HCut.out w1).mono ?_
  rintro e w2 ⟨v2, rfl, hO, hb2⟩
  obtain ⟨A, c, rfl, hS⟩ := OwnT.strs hO HSh.out
  have HS := Lib.hid hS
  have HB2 := Lib.hid (HB1.out.trans (hb2.mono HB1.out.size))
  have hmx := hS.max
  have hle := hS.le
  have HCl := Lib.hid hcl
  clear hO hb2 hS hcl
  go_wp2_with fail
  go_loopw [4, 6] (fun s i wr => ∃ k : Nat, k ≤ (cutL d).length ∧ i = .int .i64 k ∧ s = .string (bs (manK d k)) ∧ Below w2.heap.size w2 wr) (fun _ i _ => (cutL d).length - (intOf i).toNat)
  case atStart => exact ⟨0, by omega, rfl, rfl, Below.refl _ _⟩
  case round =>
    obtain ⟨k, hk, rfl, rfl, hb⟩ := hrel
    rcases Nat.lt_or_ge k (cutL d).length with hlt | hge
    · obtain ⟨b, off, rfl, hbl, c0, hm⟩ := Strs.at_ (HS.out.below hb) hlt
      rw [cutL_at hlt] at c0
      have hki : (k : Int) < ((cutL d).length : Int) := by omega
      have HK := Lib.hid (HKey.out (piece d k) (piece_len d k) wr)
      have HNx := Lib.hid (manK_succ d k)
      unfold keyL at HNx
      have hln := manK_len d k
      have hln2 : (manK d k).length ≤ 1000 := by have := HCl.out; omega
      have hln3 : ((sumL (piece d k)).take 32).length ≤ 32 := List.length_take_le _ _
      have HB := Lib.hid hb
      clear hb hln hm
      generalize (sumL (piece d k)).take 32 = ky at *
      generalize piece d k = pc at *
      go_wp2_with fail
      refine HK.out.mono ?_
      rintro e w3 ⟨rfl, hb3⟩
      have HB3 := Lib.hid (HB.out.trans (hb3.mono HB.out.size))
      clear hb3
      go_wp2_with fail
      exact ⟨⟨k + 1, by omega, by go_num, by rw [HNx.out], HB3.out⟩, by simp [intOf]; omega⟩
    · have hkn : ¬ (k : Int) < ((cutL d).length : Int) := by omega
      have hfin : RowKit.Hid (manK d k = manL d) := Lib.hid (by rw [← manK_all]; congr 1; have := HCl.out; omega)
      have HB := Lib.hid (HB2.out.trans (hb.mono HB2.out.size))
      clear hb
      go_wp2_with fail
      go_ret2
      exact ManP.yes HBig.out H0.out hfin.out HB.out
end Go.Proofs.Ytdmopbfckdadnaa
