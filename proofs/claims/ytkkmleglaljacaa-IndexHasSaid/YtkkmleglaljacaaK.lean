/- Vector; lists of ints of one's own. -/
import Derived.Test.YtkkmleglaljacaaH
namespace Go.Proofs.Ytkkmleglaljacaa
open Go.RowKit

def ics (l : List Int) : List Value := l.map fun x => .int .i64 x
theorem ics_append (a b : List Int) : ics (a ++ b) = ics a ++ ics b := by simp [ics]
theorem ics_len (l : List Int) : (ics l).length = l.length := by simp [ics]
theorem info3 : (Try.prog.info? 3).map (fun i => (i.zero, i.size, i.bytes)) = some (some (.int .i64 0), 1, 8) := by kernel_rfl
theorem cell1_new (W : World) (t : TypeId) (a : Value) : ∀ (j : Nat) (u : Value), [a][j]? = some u → (W.alloc (.cells #[a] t)).cell? ((Addr.mk W.heap.size 0 none).add j) = some u := by
  intro j u hu
  have e : (Addr.mk W.heap.size 0 none).add j = ⟨W.heap.size, j, none⟩ := by unfold Addr.add; split <;> simp_all
  rw [e, (Blk.new W t #[a]).cell]
  simpa using hu
/-- 'out = append(out, n)' at a row of ints of one's own -/
theorem wpList_app1 {ops : Array Oper} {rest : List Oper} {o : Oper} {a : Act} {Q : Exit → Act → World → Prop} (W : World) (y : Int) (hgd : o.guard = none) (s x : Operand)
    (ho : o.op = .call { callee := .builtin .append, args := #[s, x], argTypes := #[42, 42] }) (base : Nat) (v : Value) (n : Nat) (l : List Int) (hs : a.eval s = v) (hown : W.ownsRow base 3 1 v n (ics l))
    (hx : a.eval x = .slice (some ⟨W.heap.size, 0, none⟩) 1 1) (hm : n ≤ 1000000) (hB : base ≤ W.heap.size)
    (h : ∀ g cap w', w'.ownsRow base 3 1 (.slice (some ⟨g, 0, none⟩) (n + 1) cap) (n + 1) (ics (l ++ [y])) → Below base W w' → W.grownBy w' v.ownBlock → wpList Try.prog ops Q rest (a.put o.dst (.slice (some ⟨g, 0, none⟩) (n + 1) cap)) w') :
    wpList Try.prog ops Q (o :: rest) a (W.alloc (.cells #[.int .i64 y] 3)) := by
  obtain ⟨i0, hi0, hz0, hz1, hz2⟩ := info_parts info3
  refine wpList_append_lies _ hgd s x 42 ho base 3 i0 (.int .i64 0) 1 8 Try.underlying42 hi0 hz0 hz1 hz2 rfl (by decide) v n (ics l) hs (hown.alloc _) ⟨W.heap.size, 0, none⟩ 1 1 [.int .i64 y] hx rfl (cell1_new W 3 _)
    (by simp [Value.oneCell']) (by decide) (by unfold maxLen; omega) (by omega) (by simp; omega) _ rfl ?_
  intro g cap w' ho' hg _ _
  refine h g cap w' ?_ (((Below.refl base W).alloc hB _).trans (below_own (hown.alloc _) hg (by simp; omega))) (gb_trans (gb_alloc (gb_refl W _) _) hg)
  rw [ics_append]
  simpa [ics] using ho'
theorem rowI_slice {w : World} {B : Nat} {u : Value} {n size : Nat} {xs : List Value} {e : TypeId} (h : w.ownsRow B e size u n xs) : ∃ A c, u = .slice A n c := by
  rcases h.2 with ⟨e, e2⟩ | ⟨g, cap, cur, e, _⟩
  · exact ⟨none, 0, by rw [e, e2]⟩
  · exact ⟨_, cap, e⟩
theorem ownI_sl {w : World} {B n c : Nat} {A : Option Addr} {e : TypeId} {l : List Int} (h : w.ownsRow B e 1 (.slice A n c) n (ics l)) (hr : ∀ x ∈ l, I64 x) : Sl w 1 IntC A n c l := by
  have hn : l.length = n := by have := h.1; rw [ics_len] at this; omega
  rcases h.2 with ⟨e1, e2⟩ | ⟨g, cap, cur, e1, _, hh, hle, hmx, hsz, htk⟩
  · cases e1
    obtain rfl : l = [] := List.eq_nil_of_length_eq_zero hn
    exact Sl.nil_
  · cases e1
    refine ⟨hn, hle, hmx, fun i hi => ⟨g, 0, [.int .i64 l[i]], rfl, Blk.lt (t := e) (cs := cur) hh, rfl, ⟨rfl, hr _ (List.getElem_mem hi)⟩, fun j u hu => ?_⟩⟩
    have hj : j = 0 := by
      have := (List.getElem?_eq_some_iff.1 hu).1
      simp at this
      omega
    subst hj
    have hB : Blk w g e cur := hh
    have h1 : (ics l)[i]? = some (.int .i64 l[i]) := by simp [ics, hi]
    rw [← htk, List.getElem?_take_of_lt (by omega), Array.getElem?_toList] at h1
    rw [show 0 + i * 1 + 0 = i by omega, hB.cell, h1]
    simpa using hu

theorem row_not' {w : World} {B : Nat} {e : TypeId} {size n : Nat} {v : Value} {xs : List Value} (h : w.ownsRow B e size v n xs) {g : Nat} {t : TypeId} {cs : Array Value} (hb : Blk w g t cs) (ht : t ≠ e) : v.ownBlock ≠ some g := by
  intro e1
  rcases h.2 with ⟨rfl, _⟩ | ⟨g', cap, cur, rfl, _, hh, _⟩
  · simp [Value.ownBlock] at e1
  · simp [Value.ownBlock] at e1
    subst e1
    unfold Blk at hb
    rw [hb] at hh
    cases hh
    exact ht rfl
theorem snoc_len (out : List Int) (j : Nat) (t : Int) : (out ++ List.replicate j (0 : Int) ++ [t]).length = out.length + j + 1 := by simp; omega
theorem replicate_snoc (out : List Int) (j : Nat) : out ++ List.replicate (j + 1) 0 = out ++ List.replicate j 0 ++ [0] := by rw [List.replicate_succ', List.append_assoc]

set_option maxRecDepth 100000 in
set_option maxHeartbeats 1600000 in
theorem vector_any (g : Nat) (v : Value) (l : List Rg) (w : World) (h : Idx 49 w g v l) (hm : l.length ≤ 10000) :
    Calls Try.prog 18 #[.pointer (some ⟨g, 0, none⟩)] w fun e w' => ∃ A c, e = .returned (.slice A (vecL [] l).length c) ∧ w'.ownsRow w.heap.size 3 1 (.slice A (vecL [] l).length c) (vecL [] l).length (ics (vecL [] l)) ∧ Below w.heap.size w w' := by
  have HR := Lib.hid (ranges_any g v l w h (by omega))
  have HRt := Lib.hid h.right
  clear h
  go_enter Try.func18, Try.ntmps18
  go_wp2_with fail
  refine HR.out.mono ?_
  rintro e w1 ⟨u, rfl, ho, hb⟩
  obtain ⟨A, c, rfl, hs⟩ := ho.sl (fun x hx => (HRt.out x hx).r64)
  have HX := Lib.hid hs
  have HB1 := Lib.hid hb
  have hs1 := hb.size
  clear hs ho hb
  go_wp2_with fail
  go_loopw [3, 9] (fun u i wr => ∃ (k : Nat) (out : List Int), k ≤ l.length ∧ i = .int .i64 k ∧ vecL [] l = vecL out (l.drop k) ∧ out.length ≤ 15 + k ∧ wr.ownsRow w1.heap.size 3 1 u out.length (ics out) ∧ Below w1.heap.size w1 wr) (fun _ i _ => l.length - (intOf i).toNat)
  case atStart => exact ⟨0, [], by omega, rfl, rfl, by simp, World.ownsRow_nil _ _ _ _, Below.refl _ _⟩
  case round =>
    obtain ⟨k, out, hk, rfl, hV, hol, hO, hB⟩ := hrel
    obtain ⟨A3, c3, rfl⟩ := rowI_slice hO
    rcases Nat.lt_or_ge k l.length with hkl | hge
    · obtain ⟨b, off, rfl, hbl, c0, c1, c2, _⟩ := Sl.rg_at HX.out hkl
      have d0 := cell_below hB hbl c0
      have d1 := cell_below hB hbl c1
      have d2 := cell_below hB hbl c2
      have hdk := List.drop_eq_getElem_cons hkl
      have hxr := HRt.out l[k] (List.getElem_mem hkl)
      obtain ⟨x, hx⟩ : ∃ x, l[k] = x := ⟨_, rfl⟩
      rw [hx] at d0 d1 d2 hdk hxr
      rw [hdk, vecL] at hV
      obtain ⟨w3, hw3⟩ : ∃ w3, w3 = wr.alloc (.cells #[.int .i64 x.w, .int .i64 x.f, .int .i64 x.t] 33) := ⟨_, rfl⟩
      have hb3 : Below wr.heap.size wr w3 := by rw [hw3]; exact (Below.refl _ wr).alloc (Nat.le_refl _) _
      have hX : Blk w3 wr.heap.size 33 #[.int .i64 x.w, .int .i64 x.f, .int .i64 x.t] := by rw [hw3]; exact Blk.new _ _ _
      have hO3 := row_below hO hb3
      have hB3 := hB.trans (hb3.mono hB.size)
      have hne3 := row_ne hO (Nat.le_refl _)
      unfold RightR at hxr
      obtain ⟨xr0, xr1, xr2, xr3, xr4⟩ := hxr
      have HW3 := Lib.hid hw3
      have HX3 := Lib.hid hX
      have HO3 := Lib.hid hO3
      have HB3 := Lib.hid hB3
      have HNe := Lib.hid hne3
      have HO := Lib.hid hO
      have HB := Lib.hid hB
      clear c0 c1 c2 hdk hx hw3 hb3 hX hO3 hB3 hne3 hO hB
      by_cases hf : x.f > 1
      · rw [if_pos hf] at hV
        have hd : decide (x.f > 1) = true := decide_eq_true hf
        have HV := Lib.hid hV
        clear hV hf
        go_wp2_with fail
        rw [← HW3.out]
        exact ⟨⟨k + 1, out, by omega, by go_num, HV.out, by omega, HO3.out, HB3.out⟩, by simp [intOf]; omega⟩
      · rw [if_neg hf] at hV
        have hd : decide (x.f > 1) = false := decide_eq_false hf
        have HV := Lib.hid hV
        clear hV hf
        go_wp2_with fail
        rw [← HW3.out]
        go_loopw [3] (fun u wq => ∃ (j : Nat), (j = 0 ∨ out.length + j ≤ x.w.toNat) ∧ wq.ownsRow w1.heap.size 3 1 u (out.length + j) (ics (out ++ List.replicate j 0)) ∧ Below w1.heap.size w1 wq ∧ Blk wq wr.heap.size 33 #[.int .i64 x.w, .int .i64 x.f, .int .i64 x.t]) (fun u _ => 20000 - (match u with | .slice _ n _ => n | _ => 0))
        case atStart => exact ⟨0, .inl rfl, by simpa using HO3.out, HB3.out, HX3.out⟩
        case round =>
          obtain ⟨j, hj, hO, hB, hX⟩ := hrel
          obtain ⟨A4, c4, rfl⟩ := rowI_slice hO
          obtain ⟨e0, e1, e2⟩ := blk3 hX
          have HO := Lib.hid hO
          have HB := Lib.hid hB
          have HX4 := Lib.hid hX
          have hsz := hB.size
          clear hO hB hX
          have hm4 : out.length + j ≤ 1000000 := by omega
          by_cases hlt : out.length + j < x.w.toNat
          · have hd2 : decide (((out.length + j : Nat) : Int) < x.w) = true := decide_eq_true (by omega)
            go_wp2_with (at_builtin; refine wpList_app1 _ 0 rfl (.tmp 21) (.tmp 22) rfl w1.heap.size (.slice A4 (out.length + j) c4) (out.length + j) (out ++ List.replicate j 0) rfl HO.out (by simp [Act.eval]) hm4 hsz ?_; intro g6 cap6 w6 ho7 hb7 hg7; have HO7 := Lib.hid ho7; have HB7 := Lib.hid (HB.out.trans hb7); have HX7 := Lib.hid (HX4.out.grown hg7 (fun e => row_not' HO.out HX4.out (by decide) e.symm)); clear ho7 hb7 hg7)
            exact ⟨⟨j + 1, .inr (by omega), by rw [replicate_snoc]; exact HO7.out, HB7.out, HX7.out⟩, by simp; omega⟩
          · have hd2 : decide (((out.length + j : Nat) : Int) < x.w) = false := decide_eq_false (by omega)
            have hpad : padTo out x.w.toNat = out ++ List.replicate j 0 := by
              unfold padTo
              congr 2
              omega
            rw [hpad] at HV
            go_wp2_with (at_builtin; refine wpList_app1 _ x.t rfl (.tmp 24) (.tmp 27) rfl w1.heap.size (.slice A4 (out.length + j) c4) (out.length + j) (out ++ List.replicate j 0) rfl HO.out (by simp [Act.eval]) hm4 hsz ?_; intro g6 cap6 w6 ho7 hb7 _; have HO7 := Lib.hid ho7; have HB7 := Lib.hid (HB.out.trans hb7); clear ho7 hb7)
            exact ⟨⟨k + 1, out ++ List.replicate j 0 ++ [x.t], by omega, by go_num, HV.out, by simp; omega, by rw [snoc_len]; exact HO7.out, HB7.out⟩, by simp [intOf]; omega⟩
    · obtain rfl : k = l.length := by omega
      rw [List.drop_length, vecL] at hV
      have HO := Lib.hid hO
      have HB := Lib.hid hB
      have HV := Lib.hid hV
      clear hO hB hV
      go_wp2_with fail
      go_ret
      rw [HV.out]
      exact ⟨_, _, rfl, row_mono HO.out hs1, HB1.out.trans (HB.out.mono hs1)⟩

theorem rowI_set {w : World} {B g cap n k : Nat} {out : List Int} (h : w.ownsRow B 3 1 (.slice (some ⟨g, 0, none⟩) n cap) n (ics out)) (t : Int) (_hk : k < n) :
    (w.setCell ⟨g, k, none⟩ (.int .i64 t)).ownsRow B 3 1 (.slice (some ⟨g, 0, none⟩) n cap) n (ics (out.set k t)) := by
  refine ⟨by have := h.1; rw [ics_len] at this ⊢; simpa using this, ?_⟩
  rcases h.2 with ⟨e, _⟩ | ⟨g', cap', cur, e, hb, hh, hle, hmx, hsz, htk⟩
  · cases e
  · cases e
    refine .inr ⟨g, cap, cur.setIfInBounds k (.int .i64 t), rfl, hb, Blk.set_ (t := 3) hh _ _, hle, hmx, by simpa using hsz, ?_⟩
    rw [Array.toList_setIfInBounds, List.take_set, htk]
    unfold ics
    rw [List.map_set]

set_option maxRecDepth 100000 in
set_option maxHeartbeats 1600000 in
theorem rvector_any (g : Nat) (v : Value) (l : List Rg) (w : World) (h : Idx 28 w g v l) (hm : l.length ≤ 10000) :
    Calls Try.prog 19 #[.pointer (some ⟨g, 0, none⟩)] w fun e w' => ∃ A c, e = .returned (.slice A (vecDoc [] l).length c) ∧ w'.ownsRow w.heap.size 3 1 (.slice A (vecDoc [] l).length c) (vecDoc [] l).length (ics (vecDoc [] l)) ∧ Below w.heap.size w w' := by
  have hc := h.cell
  have hgl := h.lt
  obtain ⟨A, c, rfl, hs⟩ := h.sl
  have HX := Lib.hid hs
  have HRt := Lib.hid h.right
  have HC := Lib.hid hc
  clear h hs hc
  go_enter Try.func19, Try.ntmps19
  go_wp2_with fail
  go_loopw [3, 4] (fun u i wr => ∃ (k : Nat) (out : List Int), k ≤ l.length ∧ i = .int .i64 k ∧ vecDoc [] l = vecDoc out (l.drop k) ∧ out.length ≤ 15 + k ∧ wr.ownsRow w.heap.size 3 1 u out.length (ics out) ∧ Below w.heap.size w wr) (fun _ i _ => l.length - (intOf i).toNat)
  case atStart => exact ⟨0, [], by omega, rfl, rfl, by simp, World.ownsRow_nil _ _ _ _, Below.refl _ _⟩
  case round =>
    obtain ⟨k, out, hk, rfl, hV, hol, hO, hB⟩ := hrel
    obtain ⟨A3, c3, rfl⟩ := rowI_slice hO
    have hcr := cell_below hB hgl HC.out
    rcases Nat.lt_or_ge k l.length with hkl | hge
    · obtain ⟨b, off, rfl, hbl, c0, c1, c2, _⟩ := Sl.rg_at HX.out hkl
      have d0 := cell_below hB hbl c0
      have d1 := cell_below hB hbl c1
      have d2 := cell_below hB hbl c2
      have hdk := List.drop_eq_getElem_cons hkl
      have hxr := HRt.out l[k] (List.getElem_mem hkl)
      obtain ⟨x, hx⟩ : ∃ x, l[k] = x := ⟨_, rfl⟩
      rw [hx] at c0 c1 c2 d0 d1 d2 hdk hxr
      rw [hdk, vecDoc] at hV
      unfold RightR at hxr
      obtain ⟨xr0, xr1, xr2, xr3, xr4⟩ := hxr
      obtain ⟨n, hn⟩ : ∃ n : Nat, x.w = n := ⟨x.w.toNat, by omega⟩
      have hnt : x.w.toNat = n := by omega
      have HO := Lib.hid hO
      have HB := Lib.hid hB
      have HC0 := Lib.hid (And.intro c0 (And.intro c1 c2))
      clear c0 c1 c2 hdk hx hO hB
      by_cases hf : x.f = 1
      · rw [if_pos hf] at hV
        have hd : (x.f == 1) = true := by simp [hf]
        have HV := Lib.hid hV
        have HN := Lib.hid hn
        have HNT := Lib.hid hnt
        clear hV hf
        go_wp2_with fail
        go_loopw [3] (fun u wq => ∃ (j : Nat), (j = 0 ∨ out.length + j ≤ n + 1) ∧ wq.ownsRow w.heap.size 3 1 u (out.length + j) (ics (out ++ List.replicate j 0)) ∧ Below w.heap.size w wq) (fun u _ => 20000 - (match u with | .slice _ n _ => n | _ => 0))
        case atStart => exact ⟨0, .inl rfl, by simpa using HO.out, HB.out⟩
        case round =>
          obtain ⟨j, hj, hO, hB⟩ := hrel
          obtain ⟨A4, c4, rfl⟩ := rowI_slice hO
          have hcr := cell_below hB hgl HC.out
          have e0 := cell_below hB hbl HC0.out.1
          have e1 := cell_below hB hbl HC0.out.2.1
          have e2 := cell_below hB hbl HC0.out.2.2
          have HO := Lib.hid hO
          have HB := Lib.hid hB
          have hsz := hB.size
          have hm4 : out.length + j ≤ 1000000 := by omega
          by_cases hlt : out.length + j ≤ n
          · have hd2 : decide (((out.length + j : Nat) : Int) ≤ x.w) = true := decide_eq_true (by omega)
            clear hO hB
            go_wp2_with (at_builtin; refine wpList_app1 _ 0 rfl (.tmp 34) (.tmp 35) rfl w.heap.size (.slice A4 (out.length + j) c4) (out.length + j) (out ++ List.replicate j 0) rfl HO.out (by simp [Act.eval]) hm4 hsz ?_; intro g6 cap6 w6 ho7 hb7 hg7; have HO7 := Lib.hid ho7; have HB7 := Lib.hid (HB.out.trans hb7); clear ho7 hb7 hg7)
            exact ⟨⟨j + 1, .inr (by omega), by rw [replicate_snoc]; exact HO7.out, HB7.out⟩, by simp; omega⟩
          · have hd2 : decide (((out.length + j : Nat) : Int) ≤ x.w) = false := decide_eq_false (by omega)
            have hpad : padTo out (n + 1) = out ++ List.replicate j 0 := by
              unfold padTo
              congr 2
              omega
            rw [HNT.out, hpad] at HV
            obtain ⟨g4, hbk⟩ : ∃ g4, A4 = some ⟨g4, 0, none⟩ ∧ w.heap.size ≤ g4 ∧ True := by
              rcases hO.2 with ⟨e, e2⟩ | ⟨g', cap', cur, e, hb', _⟩
              · omega
              · cases e; exact ⟨g', rfl, hb', trivial⟩
            obtain ⟨rfl, hg4, _⟩ := hbk
            have hcells : wr.cell? ⟨g4, n, none⟩ = some (.int .i64 ((out ++ List.replicate j 0).getD n 0)) ∧ wr.frozen? ⟨g4, n, none⟩ = false ∧ out.length + j ≤ c4 ∧ c4 ≤ 9223372036854775807 := by
              rcases hO.2 with ⟨e, e2⟩ | ⟨g', cap', cur, e, hb', hh, hle, hmx, hsz2, htk⟩
              · cases e
              · cases e
                have hBk : Blk wr g4 3 cur := hh
                have hnl : n < (out ++ List.replicate j 0).length := by simp; omega
                have h1 : (ics (out ++ List.replicate j 0))[n]? = some (.int .i64 ((out ++ List.replicate j 0).getD n 0)) := by
                  unfold ics
                  rw [List.getElem?_map, List.getElem?_eq_getElem hnl, List.getD_eq_getElem?_getD, List.getElem?_eq_getElem hnl]
                  rfl
                rw [← htk, List.getElem?_take_of_lt (by omega), Array.getElem?_toList] at h1
                exact ⟨by rw [hBk.cell, h1], hBk.frozen _, hle, hmx⟩
            obtain ⟨s0, s1, s2, s3⟩ := hcells
            have hlt2 : n < out.length + j := by omega
            rw [HN.out] at hd2 xr1
            have hd3 : decide ((out.length : Int) + (j : Int) ≤ (n : Int)) = false := decide_eq_false (by omega)
            clear hO hB hd2
            go_wp2_with fail
            refine wp_region_quiet_tail (C := fun w' => w' = wr.drew) 18 (by kernel_rfl) (by kernel_rfl) rfl ?_
            simp only [List.take_succ_cons, List.take_zero, List.drop_succ_cons, List.drop_zero]
            repeat (go_big_quiet_step (fail))
            refine wpQuiet_nil ?_
            rintro _ rfl
            go_wp2_with fail
            have hset := rowI_set (w := wr.drew) (k := n) HO.out x.t hlt2
            refine ⟨⟨k + 1, (out ++ List.replicate j 0).set n x.t, by omega, by go_num, ?_, by simp; omega, by rw [List.length_set, List.length_append, List.length_replicate]; exact hset, (HB.out.drew).setCell (p := ⟨g4, n, none⟩) hg4 _⟩, by simp [intOf]; omega⟩
            rw [HV.out]
      · rw [if_neg hf] at hV
        have hd : (x.f == 1) = false := by simp [hf]
        have HV := Lib.hid hV
        clear hV hf
        go_wp2_with fail
        exact ⟨⟨k + 1, out, by omega, by go_num, HV.out, by omega, HO.out, HB.out⟩, by simp [intOf]; omega⟩
    · obtain rfl : k = l.length := by omega
      rw [List.drop_length, vecDoc] at hV
      have HO := Lib.hid hO
      have HB := Lib.hid hB
      have HV := Lib.hid hV
      clear hO hB hV
      go_wp2_with fail
      go_ret
      rw [HV.out]
      exact ⟨_, _, rfl, HO.out, HB.out⟩
end Go.Proofs.Ytkkmleglaljacaa
