/- slices.Clone on nodes. -/
import Derived.Test.YthaekoeekpofpaaJ
import Derived.Lib.SliceRun
namespace Go.Proofs.Ythaekoeekpofpaa
open Go.RowKit
attribute [local go_sem] bs_size bs_getElem bs_list bs_append

theorem ncs_one (xs : List Nd) : ∀ u ∈ ncs xs, u.oneCell' = true := by
  intro u hu
  obtain ⟨x, _, h⟩ := List.mem_flatMap.1 hu
  exact nc_one x u h
/-- a list of nodes handed to append -/
theorem Src.nds {w : World} {A : Option Addr} {n c : Nat} {xs : List Nd} (h : Nds w A n c xs) : Src Try.prog 7 25 (.slice A n c) n (ncs xs) w := by
  have hn := h.len
  cases hx : xs with
  | nil =>
    rw [hx] at hn
    obtain rfl : n = 0 := by simpa using hn.symm
    cases A with
    | none => exact Src.ofNil w Try.underlying25 c
    | some a => exact Src.ofSlice w Try.underlying25 a 0 c [] rfl (fun j u hu => by simp at hu) (fun u hu => by cases hu)
  | cons x0 r =>
    rw [← hx]
    have h0 : 0 < xs.length := by rw [hx]; simp
    obtain ⟨b, off, cs, rfl, _⟩ := h.4 0 h0
    refine Src.ofSlice w Try.underlying25 ⟨b, off, none⟩ n c (ncs xs) (by rw [ncs_len, hn]) (fun j u hu => ?_) (ncs_one xs)
    have hadd : (Addr.mk b off none).add j = ⟨b, off + j, none⟩ := by unfold Addr.add; split <;> simp_all
    rw [hadd]
    have hj : j < xs.length * 7 := by
      rcases Nat.lt_or_ge j (xs.length * 7) with h | h
      · exact h
      · rw [List.getElem?_eq_none (by rw [ncs_len]; exact h)] at hu; cases hu
    have hk : j / 7 < xs.length := by omega
    obtain ⟨b2, off2, cs2, e2, _, _, ⟨rfl, _⟩, hc⟩ := h.4 (j / 7) hk
    cases e2
    have hu2 : (nc xs[j / 7])[j % 7]? = some u := by
      rw [← ncs_at xs (j / 7) (j % 7) hk (Nat.mod_lt _ (by decide)), show j / 7 * 7 + j % 7 = j by omega]
      exact hu
    have := hc _ u hu2
    rw [show off + j / 7 * 7 + j % 7 = off + j by omega] at this
    exact this

set_option maxRecDepth 100000 in
set_option maxHeartbeats 1600000 in
theorem clone_any (A : Option Addr) (n c : Nat) (xs : List Nd) (w : World) (hx : Nds w A n c xs) (hm : n ≤ 1000000) :
    Calls Try.prog 34 #[.slice A n c] w fun e w' => ∃ v, e = .returned v ∧ Own w' w.heap.size v xs ∧ Below w.heap.size w w' := by
  obtain ⟨i0, hi0, hz0, hz1, hz2⟩ := info_parts info37
  have hn := hx.len
  cases A with
  | none =>
    have h0 : xs = [] := by
      cases hxs : xs with
      | nil => rfl
      | cons x r =>
        obtain ⟨b, off, cs, e, _⟩ := hx.4 0 (by rw [hxs]; simp)
        cases e
    subst h0
    clear hx hi0 hz0 hz1 hz2
    have he := fun w => Lib.run_eql_slice_nil (P := Try.prog) w 25 37 none n c 0 0 Try.underlying25
    go_enter Try.func34, Try.ntmps34
    go_wp2_with fail
    go_ret
    exact ⟨_, rfl, OwnC.nil_ _ _ _, Below.refl _ _⟩
  | some a =>
    have hb1 : Below w.heap.size w (w.alloc (.cells #[] 37)) := (Below.refl _ w).alloc (Nat.le_refl _) _
    have hO : OwnC (w.alloc (.cells #[] 37)) w.heap.size 7 (.slice (some ⟨w.heap.size, 0, none⟩) 0 0) 0 [] :=
      ⟨rfl, .inr ⟨w.heap.size, 0, rfl, Nat.le_refl _, by simp, Nat.le_refl _, by decide, fun j hj => by omega, fun j hj => by omega, fun j u hu => by simp at hu⟩⟩
    have hS := Src.nds (hx.below hb1)
    have HB := Lib.hid hb1
    have HO := Lib.hid hO
    have HS := Lib.hid hS
    have HI := Lib.hid hi0
    have HZ0 := Lib.hid hz0
    have HZ1 := Lib.hid hz1
    have HZ2 := Lib.hid hz2
    clear hx hb1 hO hS hi0 hz0 hz1 hz2
    have he := fun w => Lib.run_eql_slice_nil (P := Try.prog) w 25 37 (some a) n c 0 0 Try.underlying25
    go_enter Try.func34, Try.ntmps34
    go_wp2_with (at_builtin; refine wpList_append_C _ rfl (.tmp 5) (.tmp 6) 25 25 rfl 37 i0 (.agg #[.int .i64 0, .int .i64 0, .bool false, .int .i64 0, .int .i64 0, .string ⟨#[]⟩, .string ⟨#[]⟩]) 7 Try.underlying25 HI.out HZ0.out HZ1.out rfl (by decide) w.heap.size _ 0 [] rfl HO.out (.slice (some a) n c) rfl n (ncs xs) ?c1 ?c3 ?c4 ?c5 ?_)
    case c1 => exact HS.out
    case c3 => unfold maxLen; omega
    case c4 => rw [HZ2.out]; omega
    case c5 => simp
    intro v' w3 hown hgrow hat
    have HOn := Lib.hid (show Own w3 w.heap.size v' xs by unfold Own; rw [hn]; simpa using hown)
    have HBn := Lib.hid (gb_own HB.out (Nat.le_refl _) (by simp) HO.out hgrow)
    clear hown hgrow hat
    go_wp2_with fail
    go_ret
    exact ⟨_, rfl, HOn.out, HBn.out⟩
end Go.Proofs.Ythaekoeekpofpaa
