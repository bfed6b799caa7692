/- The document's Cut; texts. -/
import Derived.Test.YtdmopbfckdadnaaPl
import Derived.Deep.Cut
namespace Go.Proofs.Ytdmopbfckdadnaa
open Go.RowKit
attribute [local go_sem] bs_size bs_getElem bs_list bs_append

def strSize : Value → Nat
  | .string s => s.size
  | _ => 0
theorem strSize_bs (l : List UInt8) : strSize (.string (bs l)) = l.length := bs_size l
theorem take_extract (s : List UInt8) (n : Nat) : (bs s).extract 0 n = bs (s.take n) := by rw [bs_extract]; simp
def cutK (d : List UInt8) (k : Nat) : List (List UInt8) := (List.range k).map (piece d)
theorem cutK_succ (d : List UInt8) (k : Nat) : cutK d (k + 1) = cutK d k ++ [piece d k] := by simp [cutK, List.range_succ]
theorem cutK_len (d : List UInt8) (k : Nat) : (cutK d k).length = k := by simp [cutK]
theorem cutK_all (d : List UInt8) : cutK d (pieces d.length) = cutL d := rfl

set_option maxRecDepth 100000 in
set_option maxHeartbeats 1600000 in
theorem rcut_any (d : List UInt8) (hd : d.length ≤ 1000000) (w : World) :
    Calls Try.prog 13 #[.string (bs d)] w fun e w' => ∃ v, e = .returned v ∧ OwnT w' w.heap.size v (cutL d) ∧ Below w.heap.size w w' := by
  obtain ⟨i0, hi0, hz0, hz1, hz2⟩ := info_parts info9
  have HI := Lib.hid hi0
  have HZ0 := Lib.hid hz0
  have HZ1 := Lib.hid hz1
  have HZ2 := Lib.hid hz2
  clear hi0 hz0 hz1 hz2
  go_enter Try.func13, Try.ntmps13
  go_wp2_with fail
  go_loopw [0, 3] (fun s u wr => ∃ k : Nat, k ≤ pieces d.length ∧ s = .string (bs (d.drop (256 * k))) ∧ OwnT wr w.heap.size u (cutK d k) ∧ Below w.heap.size w wr) (fun s _ _ => strSize s)
  case atStart => exact ⟨0, by omega, rfl, OwnC.nil_ _ _ _, Below.refl _ _⟩
  case round =>
    obtain ⟨k, hk, rfl, hO, hb⟩ := hrel
    obtain ⟨A2, cc2, rfl⟩ := OwnC.isSlice hO
    have hpl : pieces d.length ≤ 4000 := by unfold pieces; omega
    rcases Nat.lt_or_ge k (pieces d.length) with hlt | hge
    · have hk2 := pieces_lt.1 hlt
      have hsl : (d.drop (256 * k)).length = d.length - 256 * k := List.length_drop
      have hpc : piece d k = (d.drop (256 * k)).take 256 := rfl
      have hnd : d.drop (256 * (k + 1)) = (d.drop (256 * k)).drop 256 := by rw [List.drop_drop]; rfl
      have HNx := Lib.hid (cutK_succ d k)
      generalize d.drop (256 * k) = s at *
      have hcl : (cutK d k).length ≤ 4000 := by rw [cutK_len]; omega
      have hs0 : (s.length : Int) > 0 := by omega
      have hs1 : decide (0 < s.length) = true := decide_eq_true (by omega)
      have hs2 : s.length ≤ 1000000 := by omega
      have HND := Lib.hid hnd
      have HPC := Lib.hid hpc
      have hbs := hb.size
      clear hsl hnd hpc
      by_cases hf : 256 < s.length
      · have hd1 : min (s.length : Int) 256 = 256 := by omega
        have hx := take_extract s 256
        have hy := drop_extract s 256
        rw [← HPC.out] at hx
        have HO := Lib.hid (OwnC.alloc hO (.cells #[.string (bs (piece d k))] 9))
        have HB := Lib.hid (hb.alloc hb.size (.cells #[.string (bs (piece d k))] 9))
        clear hO hb
        go_wp2_with (at_builtin; refine wpList_append_C _ rfl (.tmp 11) (.tmp 15) 27 27 rfl 9 i0 (.string ⟨#[]⟩) 1 Try.underlying27 HI.out HZ0.out HZ1.out rfl (by decide) w.heap.size _ (cutK d k).length (strs (cutK d k)) rfl HO.out (.slice (some ⟨wr.heap.size, 0, none⟩) 1 1) rfl 1 [.string (bs (piece d k))] ?c1 ?c3 ?c4 ?c5 ?_)
        case c1 => exact Src.one Try.underlying27 (by simp [go_sem]) rfl
        case c3 => unfold maxLen; omega
        case c4 => rw [HZ2.out]; omega
        case c5 => simp; omega
        intro v' w5 hown hgrow hat
        have HOn := Lib.hid (OwnT.snoc hown)
        have HBn := Lib.hid (gb_own HB.out (Nat.le_refl _) (by simp; omega) HO.out hgrow)
        clear hown hgrow hat
        go_wp2_with fail
        exact ⟨⟨k + 1, by omega, by rw [HND.out], by rw [HNx.out]; exact HOn.out, HBn.out⟩, by rw [strSize_bs, strSize_bs, List.length_drop]; omega⟩
      · have hd1 : min (s.length : Int) 256 = (s.length : Int) := by omega
        have hx := take_extract s s.length
        have hy := drop_extract s s.length
        have hp : piece d k = s.take s.length := by rw [HPC.out, List.take_of_length_le (by omega), List.take_of_length_le (by omega)]
        rw [← hp] at hx
        have hnil : s.drop s.length = s.drop 256 := by rw [List.drop_of_length_le (by omega), List.drop_of_length_le (by omega)]
        rw [hnil] at hy
        have HO := Lib.hid (OwnC.alloc hO (.cells #[.string (bs (piece d k))] 9))
        have HB := Lib.hid (hb.alloc hb.size (.cells #[.string (bs (piece d k))] 9))
        clear hO hb hp hnil
        go_wp2_with (at_builtin; refine wpList_append_C _ rfl (.tmp 11) (.tmp 15) 27 27 rfl 9 i0 (.string ⟨#[]⟩) 1 Try.underlying27 HI.out HZ0.out HZ1.out rfl (by decide) w.heap.size _ (cutK d k).length (strs (cutK d k)) rfl HO.out (.slice (some ⟨wr.heap.size, 0, none⟩) 1 1) rfl 1 [.string (bs (piece d k))] ?c1 ?c3 ?c4 ?c5 ?_)
        case c1 => exact Src.one Try.underlying27 (by simp [go_sem]) rfl
        case c3 => unfold maxLen; omega
        case c4 => rw [HZ2.out]; omega
        case c5 => simp; omega
        intro v' w5 hown hgrow hat
        have HOn := Lib.hid (OwnT.snoc hown)
        have HBn := Lib.hid (gb_own HB.out (Nat.le_refl _) (by simp; omega) HO.out hgrow)
        clear hown hgrow hat
        go_wp2_with fail
        exact ⟨⟨k + 1, by omega, by rw [HND.out, List.drop_of_length_le (by omega)]; rfl, by rw [HNx.out]; exact HOn.out, HBn.out⟩, by rw [strSize_bs]; show 0 < s.length; omega⟩
    · obtain rfl : k = pieces d.length := by omega
      have hnil : d.drop (256 * pieces d.length) = [] := List.drop_of_length_le (by unfold pieces; omega)
      rw [hnil]
      rw [cutK_all] at hO
      have HO := Lib.hid hO
      have HB := Lib.hid hb
      clear hO hb hnil
      go_wp2_with fail
      go_ret
      exact ⟨_, rfl, HO.out, HB.out⟩

set_option maxRecDepth 100000 in
set_option maxHeartbeats 1600000 in
theorem texts_any (A A2 : Option Addr) (n c c2 : Nat) (xs : List (List UInt8)) (w : World) (hx : Strs w A n c xs) (hy : Strs w A2 n c2 xs) :
    Calls Try.prog 11 #[.slice A n c, .slice A2 n c2] w fun e w' => e = .returned (.bool true) ∧ Below w.heap.size w w' := by
  have hn := hx.len
  have hmx := hx.max
  have hle := hx.le
  have hmy := hy.max
  have hley := hy.le
  have HX := Lib.hid hx
  have HY := Lib.hid hy
  clear hx hy
  go_enter Try.func11, Try.ntmps11
  go_wp2_with fail
  go_loopw [5] (fun i wr => ∃ k : Nat, k ≤ n ∧ i = .int .i64 k ∧ Below w.heap.size w wr) (fun i _ => n - (intOf i).toNat)
  case atStart => exact ⟨0, by omega, rfl, Below.refl _ _⟩
  case round =>
    obtain ⟨k, hk, rfl, hb⟩ := hrel
    rcases Nat.lt_or_ge k n with hlt | hge
    · obtain ⟨b, off, rfl, hbl, c0, _⟩ := Strs.at_ (HX.out.below hb) (by omega : k < xs.length)
      obtain ⟨b2, off2, rfl, hbl2, d0, _⟩ := Strs.at_ (HY.out.below hb) (by omega : k < xs.length)
      generalize xs[k] = x at *
      have hki : (k : Int) < (n : Int) := by omega
      have HB := Lib.hid hb
      clear hb
      go_wp2_with fail
      go_quiet (fail)
      have hb7 := Lib.hid (show Below w.heap.size w (wr.drewN nq) from ⟨HB.out.os, HB.out.tape, HB.out.output, HB.out.size, HB.out.block⟩)
      go_wp2_with fail
      exact ⟨⟨k + 1, by omega, by go_num, hb7.out⟩, by simp [intOf]; omega⟩
    · have hkn : ¬ (k : Int) < (n : Int) := by omega
      have HB := Lib.hid hb
      clear hb
      go_wp2_with fail
      go_ret
      exact ⟨rfl, HB.out⟩
end Go.Proofs.Ytdmopbfckdadnaa
