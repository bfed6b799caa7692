/- Fold. -/
import Derived.Test.YtaglomhmnoldlaaU
namespace Go.Proofs.Ytaglomhmnoldlaa
open Go.RowKit
attribute [local go_sem] bs_size bs_getElem bs_list bs_append

theorem foldN_take (l : List TOp) (k : Nat) (hk : k < l.length) : foldN (l.take (k + 1)) = doN (foldN (l.take k)) l[k] := by
  unfold foldN
  rw [List.take_succ_eq_append_getElem hk, List.foldl_append]
  rfl
theorem foldN_len (l : List TOp) : (foldN l).length ≤ l.length := by
  unfold foldN
  have : ∀ (l : List TOp) (xs : List Nd), (l.foldl doN xs).length ≤ xs.length + l.length := by
    intro l
    induction l with
    | nil => intro xs; simp
    | cons x l ih => intro xs; simp only [List.foldl_cons, List.length_cons]; have := ih (doN xs x); have := doN_len xs x; omega
  simpa using this l []
theorem Ops.shortAt {w : World} {A : Option Addr} {n c : Nat} {xs : List TOp} (h : Ops w A n c xs) {k : Nat} (hk : k < xs.length) : OpS xs[k] := by
  obtain ⟨b, off, cs, e, hlt, hl, ⟨_, h1, h2⟩, hc⟩ := h.4 k hk
  exact ⟨h1, h2⟩

set_option maxRecDepth 100000 in
set_option maxHeartbeats 1600000 in
theorem fold_any (A : Option Addr) (n c : Nat) (l : List TOp) (w : World) (hl : Ops w A n c l) (hm : n ≤ 1000) :
    Calls Try.prog 22 #[.slice A n c] w (Done w (foldN l)) := by
  have hn := hl.len
  have hmx := hl.max
  have hle := hl.le
  have HL := Lib.hid hl
  clear hl
  go_enter Try.func22, Try.ntmps22
  go_wp2_with fail
  go_loopw [3, 8] (fun u i wr => ∃ k : Nat, k ≤ n ∧ i = .int .i64 k ∧ (∃ A2 n2 c2, u = .slice A2 n2 c2 ∧ Nds wr A2 n2 c2 (foldN (l.take k))) ∧ Below w.heap.size w wr) (fun _ i _ => n - (intOf i).toNat)
  case atStart => exact ⟨0, by omega, rfl, ⟨none, 0, 0, rfl, Sl.nil_⟩, Below.refl _ _⟩
  case round =>
    obtain ⟨k, hk, rfl, ⟨A2, n2, c2, rfl, hN⟩, hb⟩ := hrel
    rcases Nat.lt_or_ge k n with hlt | hge
    · have hkl : k < l.length := by omega
      obtain ⟨b, off, rfl, hbl, c0, c1, c2', c3, c4, c5, c6, c7, c8, c9, c10, m1, m2⟩ := Ops.at_ (HL.out.below hb) hkl
      have hnext := foldN_take l k hkl
      have hlen : n2 ≤ 1000 := by
        have h1 := hN.len
        have h2 := foldN_len (l.take k)
        rw [List.length_take] at h2
        omega
      have hop : OpS l[k] := ⟨m1, m2⟩
      generalize l[k] = x at *
      have hki : (k : Int) < (n : Int) := by omega
      have hb1 : Below wr.heap.size wr (wr.alloc (.cells (oc x).toArray 31)) := (Below.refl _ _).alloc (Nat.le_refl _) _
      have HD := Lib.hid (do_any x A2 n2 c2 (foldN (l.take k)) _ (hN.below hb1) hop (by omega))
      have HB := Lib.hid (hb.alloc hb.size (.cells (oc x).toArray 31))
      have hbs : w.heap.size ≤ (wr.alloc (.cells (oc x).toArray 31)).heap.size := Nat.le_trans hb.size (by simp)
      have HS := Lib.hid hbs
      have HNx := Lib.hid hnext
      clear hb hb1 hN hnext hop m1 m2 hbs hkl
      unfold ov oc at HD
      go_wp2_with fail
      refine HD.out.mono ?_
      rintro e w2 ⟨A3, c3', rfl, hN3, hb3⟩
      have HN3 := Lib.hid hN3
      have HB3 := Lib.hid (HB.out.trans (hb3.mono HS.out))
      clear hN3 hb3
      go_wp2_with fail
      exact ⟨⟨k + 1, by omega, by go_num, ⟨_, _, _, rfl, by rw [HNx.out]; exact HN3.out⟩, HB3.out⟩, by simp [intOf]; omega⟩
    · have hkn : ¬ (k : Int) < (n : Int) := by omega
      have hfin : l.take k = l := List.take_of_length_le (by omega)
      rw [hfin] at hN
      have h2 := hN.len
      subst h2
      have HN := Lib.hid hN
      have HB := Lib.hid hb
      clear hN hb hfin
      go_wp2_with fail
      go_ret
      exact ⟨_, _, rfl, HN.out, HB.out⟩
end Go.Proofs.Ytaglomhmnoldlaa
