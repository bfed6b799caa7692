/- The walk of the document's writer of numbers. -/
import Derived.Test.YtdmopbfckdadnaaCdC
import Derived.Laws.AppendOwnNone
namespace Go.Proofs.Ytdmopbfckdadnaa.Cd
open Go.RowKit
attribute [local go_sem] bs_size bs_getElem bs_list

def dv (l : List Nat) : List Value := l.map fun (d : Nat) => Value.int .u8 (d : Int)
theorem dv_one (l : List Nat) : ∀ u ∈ dv l, u.oneCell' = true := by
  intro u hu
  obtain ⟨d, _, rfl⟩ := List.mem_map.1 hu
  rfl
theorem own_some {w : World} {B : Nat} {v : Value} {n : Nat} {xs : List Value} (h : w.ownsRow B 5 1 v n xs) (hn : 0 < n) :
    ∃ g cap, v = .slice (some ⟨g, 0, none⟩) n cap ∧ B ≤ g ∧ g < w.heap.size ∧ ∀ j u, xs[j]? = some u → w.cell? ((Addr.mk g 0 none).add j) = some u := by
  rcases h.2 with ⟨rfl, rfl⟩ | ⟨g, cap, cur, rfl, hg, hh, hle, hmx, hsz, htk⟩
  · omega
  · have hB : Blk w g 5 cur := hh
    refine ⟨g, cap, rfl, hg, hB.lt, fun j u hu => ?_⟩
    have hadd : (Addr.mk g 0 none).add j = ⟨g, j, none⟩ := by unfold Addr.add; split <;> simp_all
    rw [hadd, hB.cell]
    rw [← htk, List.getElem?_take] at hu
    split at hu
    · rw [← hu]; simp
    · cases hu
theorem own_nil {w : World} {B : Nat} {v : Value} {xs : List Value} (h : w.ownsRow B 5 1 v 0 xs) : ∃ a cap, v = .slice a 0 cap := by
  rcases h.2 with ⟨rfl, _⟩ | ⟨g, cap, cur, rfl, _⟩
  · exact ⟨_, _, rfl⟩
  · exact ⟨_, _, rfl⟩
theorem own_far {w w' : World} {B : Nat} {v : Value} {n : Nat} {xs : List Value} (h : w.ownsRow B 5 1 v n xs) (hb : ∀ g, v.ownBlock = some g → w'.heap[g]? = w.heap[g]?) : w'.ownsRow B 5 1 v n xs := by
  refine ⟨h.1, ?_⟩
  rcases h.2 with h2 | ⟨g, cap, cur, rfl, hg, hh, r⟩
  · exact .inl h2
  · exact .inr ⟨g, cap, cur, rfl, hg, (hb g rfl).trans hh, r⟩
theorem own_lt {w : World} {B : Nat} {v : Value} {n : Nat} {xs : List Value} (h : w.ownsRow B 5 1 v n xs) {g : Nat} (hg : v.ownBlock = some g) : g < w.heap.size ∧ B ≤ g := by
  rcases h.2 with ⟨rfl, _⟩ | ⟨g', cap, cur, rfl, hge, hh, _⟩
  · cases hg
  · cases hg
    exact ⟨Blk.lt (t := 5) (cs := cur) hh, hge⟩

set_option maxHeartbeats 1000000 in
theorem num_r (n : Int) (w : World) (hn : -9223372036854775808 ≤ n ∧ n ≤ 9223372036854775807) :
    Calls Try.prog 22 #[.int .i64 n] w fun e' w' => e' = .returned (.string (bs (numL n))) ∧ Below w.heap.size w w' := by
  unfold numL
  have hlt := u64_lt n
  have hw : IntKind.u64.wrap n = (u64 n : Int) := by unfold u64; simp [IntKind.wrap, IntKind.signed, IntKind.bits]; omega
  generalize u64 n = u at *
  obtain ⟨i0, hi, hz0, hz1, hz2⟩ := info_parts info5
  have HI := Lib.hid hi
  have HZ0 := Lib.hid hz0
  have HZ1 := Lib.hid hz1
  have HZ2 := Lib.hid hz2
  clear hi hz0 hz1 hz2
  go_enter Try.func22, Try.ntmps22
  go_wp2_with fail
  go_loopw [3, 4, 5] (fun uv v _ wr => ∃ (x f : Nat) (t : List Nat), uv = .int .u64 x ∧ x < 256 ^ f ∧ x < 18446744073709551616 ∧ f + t.length = 8 ∧ digs u = digsF f x ++ t ∧ Below w.heap.size w wr ∧ wr.ownsRow w.heap.size 5 1 v t.length (dv t) ∧ (t = [] → v = .slice none 0 0)) (fun uv _ _ _ => (intOf uv).toNat)
  case atStart => exact ⟨u, 8, [], rfl, lt8 hlt, hlt, rfl, by simp [digs], Below.refl _ _, ⟨rfl, .inl ⟨rfl, rfl⟩⟩, fun _ => rfl⟩
  case round =>
    obtain ⟨x, f, t, rfl, hxf, hx64, hft, hdig, hb, hown, hnil⟩ := hrel
    have HO := Lib.hid hown
    have HD := Lib.hid hdig
    have HF := Lib.hid hxf
    have HN := Lib.hid hnil
    have HFT := Lib.hid hft
    have ht8 : t.length ≤ 8 := by omega
    clear hown hdig hxf hnil hft
    have hbase := hb.size
    by_cases hx0 : 0 < x
    · have hx0' : (0 : Int) < x := by omega
      have hwx : (x : Int) % 256 = ((x % 256 : Nat) : Int) := by omega
      have hwd : (x : Int) / 256 = ((x / 256 : Nat) : Int) := by omega
      have hf : ∃ f', f = f' + 1 := by
        cases f with
        | zero => have := HF.out; simp at this; omega
        | succ f' => exact ⟨f', rfl⟩
      obtain ⟨f', rfl⟩ := hf
      have hdg : digsF (f' + 1) x = digsF f' (x / 256) ++ [x % 256] := by
        have : x ≠ 0 := by omega
        simp [digsF, this]
      have HDG := Lib.hid hdg
      clear hdg
      have HWX := Lib.hid hwx
      have HWD := Lib.hid hwd
      clear hwx hwd
      go_wp2_with (at_builtin; refine wpList_append_own _ rfl (.tmp 11) (.tmp 15) 37 rfl wr.heap.size 5 i0 (.int .u8 0) 1 1 Try.underlying37 HI.out HZ0.out HZ1.out HZ2.out rfl (by decide) _ 0 [] rfl ⟨rfl, .inl ⟨rfl, rfl⟩⟩ ⟨wr.heap.size, 0, none⟩ 1 1 [.int .u8 ((x : Int) % 256)] rfl rfl ?p1 ?p2 ?p3 ?p4 ?p5 ?_)
      try (case p2 => simp [Value.oneCell'])
      try (case p3 => unfold maxLen; omega)
      try (case p4 => omega)
      try (case p5 => first | omega | (simp; done) | (simp; omega))
      try (case p1 => exact cell_one_new _ _ _)
      intro m1 w1 hm1 hg1 _
      have HM := Lib.hid hm1
      have hb1 : Below wr.heap.size wr w1 := ((Below.refl _ _).alloc (Nat.le_refl _) _).grown hg1 (by simp) (by intro g hg; simp [Value.ownBlock] at hg)
      clear hm1 hg1
      have fin : ∀ (v2 : Value) (w2 : World), w2.ownsRow wr.heap.size 5 1 v2 (1 + t.length) (.int .u8 ((x : Int) % 256) :: dv t) → Below wr.heap.size wr w2 →
          (∃ (x' f : Nat) (t' : List Nat), Value.int .u64 ((x : Int) / 256) = .int .u64 x' ∧ x' < 256 ^ f ∧ x' < 18446744073709551616 ∧ f + t'.length = 8 ∧ digs u = digsF f x' ++ t' ∧ Below w.heap.size w w2 ∧ w2.ownsRow w.heap.size 5 1 v2 t'.length (dv t') ∧ (t' = [] → v2 = .slice none 0 0)) := by
        intro v2 w2 ho2 hb2
        refine ⟨x / 256, f', x % 256 :: t, by rw [HWD.out], ?_, by omega, by have := HFT.out; simp; omega, ?_, hb.trans (hb2.mono hbase), ?_, fun e => by cases e⟩
        · have := HF.out
          rw [Nat.pow_succ] at this; omega
        · rw [HD.out, HDG.out, List.append_assoc, List.singleton_append]
        · have ho3 : w2.ownsRow w.heap.size 5 1 v2 (1 + t.length) (dv (x % 256 :: t)) := by
            rw [HWX.out] at ho2
            refine ⟨ho2.1, ?_⟩
            rcases ho2.2 with h | ⟨g, cap, cur, e, hg, r⟩
            · exact .inl h
            · exact .inr ⟨g, cap, cur, e, Nat.le_trans hbase hg, r⟩
          rw [List.length_cons, Nat.add_comm]
          exact ho3
      have FIN := Lib.hid fin
      clear fin
      by_cases ht : t = []
      · subst ht
        obtain rfl := HN.out rfl
        go_wp2_with (at_builtin; refine wpList_append_own_none rfl (.tmp 17) (.tmp 18) 37 rfl wr.heap.size 5 i0 1 Try.underlying37 HI.out _ 1 _ rfl HM.out rfl ?_)
        go_wp2_with fail
        exact ⟨FIN.out _ _ HM.out hb1, by simp [intOf]; omega⟩
      · 
        obtain ⟨g, cap, rfl, hgB, hgl, hcells⟩ := own_some HO.out (List.length_pos_iff.2 ht)
        have HC : Hid (∀ j u, (dv t)[j]? = some u → w1.cell? ((Addr.mk g 0 none).add j) = some u) := fun j u hu => by
          rw [hb1.cell (by rw [block_of_add]; exact hgl)]; exact hcells j u hu
        clear hcells
        go_wp2_with (at_builtin; refine wpList_append_own _ rfl (.tmp 17) (.tmp 18) 37 rfl wr.heap.size 5 i0 (.int .u8 0) 1 1 Try.underlying37 HI.out HZ0.out HZ1.out HZ2.out rfl (by decide) _ 1 _ rfl HM.out ⟨g, 0, none⟩ t.length _ (dv t) rfl ?q0 HC.out (dv_one t) ?q3 ?q4 ?q5 ?_)
        try (case q0 => simp [dv])
        try (case q3 => unfold maxLen; omega)
        try (case q4 => omega)
        try (case q5 => exact hb1.size)
        intro m2 w2 hm2 hg2 _
        have HM2 := Lib.hid hm2
        have hb2 : Below wr.heap.size wr w2 := hb1.grown hg2 hb1.size (by intro g hg; exact (own_lt HM.out hg).2)
        clear hm2 hg2
        go_wp2_with fail
        exact ⟨FIN.out _ _ HM2.out hb2, by simp [intOf]; omega⟩
    · obtain rfl : x = 0 := by omega
      have hz : digsF f 0 = [] := by cases f <;> simp [digsF]
      have HT : Hid (digs u = t) := by show _ = _; rw [HD.out, hz]; rfl
      clear hz HD HF HFT
      have hvl : ∃ a cap, u4 = .slice a t.length cap := by
        by_cases ht : t = []
        · subst ht; exact own_nil HO.out
        · obtain ⟨g, cap, e, _⟩ := own_some HO.out (List.length_pos_iff.2 ht)
          exact ⟨_, cap, e⟩
      have FIN : Hid (∀ (v2 : Value) (w2 : World), w2.ownsRow wr.heap.size 5 1 v2 (1 + t.length) (.int .u8 (t.length : Int) :: dv t) → Below wr.heap.size wr w2 →
          ∃ g cap, v2 = .slice (some ⟨g, 0, none⟩) (1 + t.length) cap ∧ (convert 37 9 (.slice (some ⟨g, 0, none⟩) (1 + t.length) cap)).run Try.prog w2 = .ok (.string (bs (numU u))) w2 ∧ Below w.heap.size w w2) := by
        intro v2 w2 ho2 hb2
        have e : (.int .u8 (t.length : Int) :: dv t) = bv (numU u) := by rw [← bv_digs, HT.out]; rfl
        rw [e] at ho2
        obtain ⟨g, cap, e, _, hc⟩ := own_bytes ho2 (by omega)
        exact ⟨g, cap, e, hc, hb.trans (hb2.mono hbase)⟩
      by_cases ht : t = []
      · subst ht
        obtain rfl := HN.out rfl
        clear hvl
        go_wp2_with (at_builtin; refine wpList_append_own _ rfl (.tmp 22) (.tmp 26) 37 rfl wr.heap.size 5 i0 (.int .u8 0) 1 1 Try.underlying37 HI.out HZ0.out HZ1.out HZ2.out rfl (by decide) _ 0 [] rfl ⟨rfl, .inl ⟨rfl, rfl⟩⟩ ⟨wr.heap.size, 0, none⟩ 1 1 [.int .u8 0] rfl rfl ?r1 ?r2 ?r3 ?r4 ?r5 ?_)
        try (case r2 => simp [Value.oneCell'])
        try (case r3 => unfold maxLen; omega)
        try (case r4 => omega)
        try (case r5 => first | omega | (simp; done) | (simp; omega))
        try (case r1 => exact cell_one_new _ _ _)
        intro m1 w1 hm1 hg1 _
        have HM := Lib.hid hm1
        have hb1 : Below wr.heap.size wr w1 := ((Below.refl _ _).alloc (Nat.le_refl _) _).grown hg1 (by simp) (by intro g hg; simp [Value.ownBlock] at hg)
        clear hm1 hg1
        have FIN1 := FIN.out m1 w1 HM.out hb1
        rw [List.length_nil, Nat.add_zero] at FIN1
        obtain ⟨g, cap, rfl, hconv, hbf⟩ := FIN1
        go_wp2_with (at_builtin; refine wpList_append_own_none rfl (.tmp 28) (.tmp 29) 37 rfl wr.heap.size 5 i0 1 Try.underlying37 HI.out _ 1 _ rfl HM.out rfl ?_)
        go_wp2_with fail
        go_ret
        exact ⟨rfl, hbf⟩
      · obtain ⟨a4, c4, rfl⟩ := hvl
        go_wp2_with (at_builtin; refine wpList_append_own _ rfl (.tmp 22) (.tmp 26) 37 rfl wr.heap.size 5 i0 (.int .u8 0) 1 1 Try.underlying37 HI.out HZ0.out HZ1.out HZ2.out rfl (by decide) _ 0 [] rfl ⟨rfl, .inl ⟨rfl, rfl⟩⟩ ⟨wr.heap.size, 0, none⟩ 1 1 [.int .u8 (t.length : Int)] rfl rfl ?s1 ?s2 ?s3 ?s4 ?s5 ?_)
        try (case s2 => simp [Value.oneCell'])
        try (case s3 => unfold maxLen; omega)
        try (case s4 => omega)
        try (case s5 => first | omega | (simp; done) | (simp; omega))
        try (case s1 => exact cell_one_new _ _ _)
        intro m1 w1 hm1 hg1 _
        have HM := Lib.hid hm1
        have hb1 : Below wr.heap.size wr w1 := ((Below.refl _ _).alloc (Nat.le_refl _) _).grown hg1 (by simp) (by intro g hg; simp [Value.ownBlock] at hg)
        clear hm1 hg1
        obtain ⟨g, cap, e4, hgB, hgl, hcells⟩ := own_some HO.out (List.length_pos_iff.2 ht)
        injection e4 with e4 _ e5
        subst e4 e5
        have HC : Hid (∀ j u, (dv t)[j]? = some u → w1.cell? ((Addr.mk g 0 none).add j) = some u) := fun j u hu => by
          rw [hb1.cell (by rw [block_of_add]; exact hgl)]; exact hcells j u hu
        clear hcells
        go_wp2_with (at_builtin; refine wpList_append_own _ rfl (.tmp 28) (.tmp 29) 37 rfl wr.heap.size 5 i0 (.int .u8 0) 1 1 Try.underlying37 HI.out HZ0.out HZ1.out HZ2.out rfl (by decide) _ 1 _ rfl HM.out ⟨g, 0, none⟩ t.length _ (dv t) rfl ?t0 HC.out (dv_one t) ?t3 ?t4 ?t5 ?_)
        try (case t0 => simp [dv])
        try (case t3 => unfold maxLen; omega)
        try (case t4 => omega)
        try (case t5 => exact hb1.size)
        intro m2 w2 hm2 hg2 _
        have HM2 := Lib.hid hm2
        have hb2 : Below wr.heap.size wr w2 := hb1.grown hg2 hb1.size (by intro g hg; exact (own_lt HM.out hg).2)
        clear hm2 hg2
        obtain ⟨g2, cap2, rfl, hconv, hbf⟩ := FIN.out m2 w2 HM2.out hb2
        go_wp2_with fail
        go_ret
        exact ⟨rfl, hbf⟩
end Go.Proofs.Ytdmopbfckdadnaa.Cd
