/- The walk of MoveSame. -/
import Derived.Test.YtaglomhmnoldlaaL7
namespace Go.Proofs.Ytaglomhmnoldlaa
open Go.RowKit
attribute [local go_sem] bs_size bs_getElem bs_list bs_append

theorem Live.rebase {w w1 wr : World} {p m : Nat} {v : Value} {r : Int} {L : List TOp} (h : Live w1 wr p m v r L) (hb : Below w.heap.size w w1) : Live w wr p m v r L :=
  ⟨⟨⟨h.mov.s3.stt, OwnC.mono h.mov.s3.log hb.size, h.mov.s3.nep, h.mov.s3.nem⟩, h.mov.sorted, h.mov.len, Nat.le_trans hb.size h.mov.p_ge, Nat.le_trans hb.size h.mov.m_ge⟩, hb.trans (h.below.mono hb.size), h.short⟩

theorem run_rem (x : Int) (n1 : Nat) (h : 0 < n1) (w : World) : (binOp .rem 3 (.int .i64 x) (.int .i64 (n1:Int))).run Try.prog w = .ok (.int .i64 (x.tmod n1)) w := by
  simp [go_sem]
  omega
theorem run_rem_nat (j n1 : Nat) (h : 0 < n1) (w : World) : (binOp .rem 3 (.int .i64 (j:Int)) (.int .i64 (n1:Int))).run Try.prog w = .ok (.int .i64 ((j % n1 : Nat) : Int)) w := by
  rw [run_rem _ _ h]
  rfl
theorem new_apart {a b p g : Nat} (hp : a < p) (hm : b < p) (h1 : Own3 a b (.slice none 0 0) g) (h2 : Own3 (p + 1) p (.slice none 0 0) g) : False := by
  rcases h1 with h1 | h1 | h1
  · rcases h2 with h2 | h2 | h2
    · omega
    · omega
    · cases h2
  · rcases h2 with h2 | h2 | h2
    · omega
    · omega
    · cases h2
  · cases h1

set_option maxRecDepth 100000 in
set_option maxHeartbeats 3200000 in
theorem law_same (A : Option Addr) (n c : Nat) (l : List TOp) (A1 : Option Addr) (n1 c1 : Nat) (ps : List Int) (w : World) (hx : Ops w A n c l) (hps : Sl w 1 IntC A1 n1 c1 ps) :
    Calls Try.prog 8 #[.slice A n c, .slice A1 n1 c1] w fun e w' => e = .returned (.bool true) ∧ Below w.heap.size w w' := by
  have hn := hx.len
  have hmx := hx.max
  have hle := hx.le
  have hpn := hps.len
  have hpm := hps.max
  have hpl := hps.le
  obtain ⟨i0, hi0, hz0, hz1, hz2⟩ := info_parts info31
  have HI0 := Lib.hid hi0
  have HZ0 := Lib.hid hz0
  have HZ1 := Lib.hid hz1
  have HZ2 := Lib.hid hz2
  clear hi0 hz0 hz1 hz2
  have AW : RowKit.Hid (∀ w2, Below w.heap.size w w2 → Calls Try.prog 9 #[] w2 fun e w' => e = .returned (.bool true) ∧ Below w.heap.size w w') := Lib.hid (fun w2 hb => (awake_any w2).mono fun e w9 h => ⟨h.1, hb.trans (h.2.mono hb.size)⟩)
  have HX := Lib.hid hx
  have HPs := Lib.hid hps
  have HNew := Lib.hid (new_live w)
  clear hx hps
  go_enter Try.func8, Try.ntmps8
  go_wp2_with fail
  refine HNew.out.mono ?_
  rintro e w1 ⟨rfl, hl⟩
  have HL1 := Lib.hid hl
  clear hl HNew
  have HNew := Lib.hid (new_live w1)
  go_wp2_with fail
  refine HNew.out.mono ?_
  rintro e w2 ⟨rfl, hl⟩
  have hp2 := HL1.out.p_lt
  have hm2 := HL1.out.m_lt
  have hT : Tri w w2 (w.heap.size + 1) w.heap.size (w1.heap.size + 1) w1.heap.size (.slice none 0 0) (.slice none 0 0) 0 [] 0 [] (.slice none 0 0) [] :=
    ⟨HL1.out.then_ hl.below, hl.rebase HL1.out.below, OwnC.nil_ _ _ _, (fun x hx => by cases hx), fun g h1 h2 => new_apart hp2 hm2 h1 h2, (fun g h => by cases h), (fun g h => by cases h)⟩
  have HT := Lib.hid hT
  clear hl HNew hT hp2 hm2 HL1
  generalize hp : w.heap.size + 1 = p at *
  generalize hp' : w1.heap.size + 1 = p2 at *
  generalize hq : w1.heap.size = m2 at *
  clear hp hp' hq
  have HF := Lib.hid (few120_is A n c l w2 (HX.out.below HT.out.a.below))
  cases hf : fewC l with
  | false =>
    rw [hf] at HF
    clear hf
    go_wp2_with fail
    refine HF.out.mono ?_
    rintro e w3 ⟨rfl, hb2⟩
    have HB2 := Lib.hid (HT.out.a.below.trans (hb2.mono HT.out.a.below.size))
    clear hb2
    go_wp2_with fail
    refine (AW.out _ HB2.out).mono ?_
    rintro e w9 ⟨rfl, hb9⟩
    have HB9 := Lib.hid hb9
    clear hb9
    go_wp2_with fail
    go_ret
    exact ⟨rfl, HB9.out⟩
  | true =>
  rw [hf] at HF
  clear hf
  cases hz : ((n1 : Int) == 0) with
  | true =>
    go_wp2_with fail
    refine HF.out.mono ?_
    rintro e w3 ⟨rfl, hb2⟩
    have HB2 := Lib.hid (HT.out.a.below.trans (hb2.mono HT.out.a.below.size))
    clear hb2
    go_wp2_with fail
    refine (AW.out _ HB2.out).mono ?_
    rintro e w9 ⟨rfl, hb9⟩
    have HB9 := Lib.hid hb9
    clear hb9
    go_wp2_with fail
    go_ret
    exact ⟨rfl, HB9.out⟩
  | false =>
  have hn1 : 0 < n1 := by have : ¬ (n1 : Int) = 0 := by simpa using hz
                          omega
  have HN1 := Lib.hid hn1
  clear hn1
  go_wp2_with fail
  refine HF.out.mono ?_
  rintro e w3 ⟨rfl, hb2⟩
  have HT3 := Lib.hid (HT.out.then_ hb2)
  clear hb2
  go_wp2_with fail
  clear hz
  go_loopw [7, 8] (fun t i wr => ∃ (k : Nat) (v : Value) (r : Int) (La T : List TOp), k ≤ n ∧ i = .int .i64 k ∧ RowKit.Hid (Tri w wr p w.heap.size p2 m2 v (.slice none 0 0) r La 0 [] t T) ∧ RowKit.Hid (Took La T)) (fun _ i _ => n - (intOf i).toNat)
  case atStart => exact ⟨0, _, _, _, _, Nat.zero_le _, rfl, HT3, Lib.hid Took.nil_⟩
  case round =>
    obtain ⟨k, v, r, La, T, hk, rfl, HTr, HTk⟩ := hrel
    obtain ⟨At, ct, rfl, hot⟩ := OwnO.ops HTr.out.t HTr.out.ts
    rcases Nat.lt_or_ge k n with hlt | hge
    · have hki : (k : Int) < (n : Int) := by omega
      obtain ⟨b, off, rfl, hbl, h11, hsx⟩ := At11.of HX.out (by omega : k < l.length)
      have HC : RowKit.Hid (∀ w', Below w.heap.size w w' → At11 w' b (off + k * 11) l[k]) := Lib.hid (fun w' hb => h11.below hb hbl)
      clear h11 hbl hot
      generalize l[k] = x at *
      have HSx := Lib.hid hsx
      clear hsx
      unfold At11 at HC
      obtain ⟨q0, q1, q2, q3, q4, q5, q6, q7, q8, q9, q10⟩ := HC.out wr HTr.out.a.below
      have HI := Lib.hid (tri_ins x HSx.out HTr.out)
      by_cases hc : codeO La x = 0
      · have HTk2 := Lib.hid (HTk.out.take hc)
        rw [hc] at HI
        clear hc
        generalize redO r La x = r' at *
        generalize insO La x = L' at *
        go_wp2_with fail
        refine HI.out.mono ?_
        rintro e w4 ⟨v4, rfl, ht4⟩
        have HT4 := Lib.hid ht4
        clear q0 q1 q2 q3 q4 q5 q6 q7 q8 q9 q10 HI ht4
        obtain ⟨q0, q1, q2, q3, q4, q5, q6, q7, q8, q9, q10⟩ := HC.out w4 HT4.out.a.below
        have hTl : T.length ≤ 400 := by have h1 := HTk2.out.perm.length_eq; have h2 := HT4.out.a.mov.len; rw [List.length_append] at h1; omega
        go_wp2_with (at_builtin; refine wpList_append_C _ rfl (.tmp 55) (.tmp 60) 39 39 rfl 31 i0 (.agg #[.int .i64 0, .int .i64 0, .int .i64 0, .int .i64 0, .int .i64 0, .int .i64 0, .bool false, .int .i64 0, .int .i64 0, .string ⟨#[]⟩, .string ⟨#[]⟩]) 11 Try.underlying39 HI0.out HZ0.out HZ1.out rfl (by decide) w.heap.size _ T.length (ocs T) rfl (OwnC.alloc HT4.out.t _) _ rfl 1 (ocs [x]) (Src.op x (Blk.new w4 31 (oc x).toArray)) (by unfold maxLen; omega) (by rw [HZ2.out]; omega) (Nat.le_trans HT4.out.a.size (by simp)) ?_)
        intro u5 w5 hown hgrow hat
        have HT5 : RowKit.Hid (Tri w w5 p w.heap.size p2 m2 v4 (.slice none 0 0) r' L' 0 [] u5 (T ++ [x])) := Lib.hid (by
          refine (HT4.out.then_ ((Below.refl _ _).alloc (Nat.le_refl _) (.cells (oc x).toArray 31))).more (T' := T ++ [x]) ?_ ?_ hgrow ?_
          · have h1 : (T ++ [x]).length = T.length + 1 := by simp
            unfold OwnO
            rw [h1, ocs_append]
            exact hown
          · intro y hy
            rcases List.mem_append.1 hy with hy | hy
            · exact HT4.out.ts y hy
            · rw [List.mem_singleton.1 hy]; exact HSx.out
          · rcases hat with h1 | h1
            · exact .inl h1
            · exact .inr ⟨_, h1, by simp⟩)
        clear hown hgrow hat q0 q1 q2 q3 q4 q5 q6 q7 q8 q9 q10
        go_wp2_with fail
        exact ⟨⟨k + 1, _, _, _, _, by omega, by go_num, HT5, HTk2⟩, by simp [intOf]; omega⟩
      · have hins : insO La x = La := by unfold insO; rw [if_neg hc]
        rw [hins] at HI
        have hcd : (codeO La x == 0) = false := by simpa using hc
        generalize codeO La x = cd at *
        clear hins hc
        generalize redO r La x = r' at *
        go_wp2_with fail
        refine HI.out.mono ?_
        rintro e w4 ⟨v4, rfl, ht4⟩
        have HT4 := Lib.hid ht4
        clear q0 q1 q2 q3 q4 q5 q6 q7 q8 q9 q10 HI ht4
        go_wp2_with fail
        exact ⟨⟨k + 1, _, _, _, _, by omega, by go_num, HT4, HTk⟩, by simp [intOf]; omega⟩
    · have hki : ¬ (k : Int) < (n : Int) := by omega
      have hLe := Lib.hid (Left.start HTk.out HTr.out.a.mov.sorted HTr.out.a.mov.len)
      have htl : T.length ≤ 400 := by have h1 := hLe.out.len_eq; have h2 := hLe.out.len; simp at h1; omega
      have hcm := hot.max
      have hcl := hot.le
      clear hk hge hot HTk
      obtain ⟨N, hN⟩ : ∃ N, N = T.length := ⟨_, rfl⟩
      rw [← hN] at htl hcl HTr ⊢
      have HN := Lib.hid hN
      clear hN
      go_wp2_with fail
      go_loopw [7, 10] (fun t i wr' => ∃ (k : Nat) (v2 : Value) (r2 : Int) (Lb T' : List TOp), k ≤ N ∧ i = .int .i64 k ∧ T'.length = N - k ∧ RowKit.Hid (Tri w wr' p w.heap.size p2 m2 v v2 r La r2 Lb t T') ∧ RowKit.Hid (Left La Lb T')) (fun _ i _ => N - (intOf i).toNat)
      case atStart => exact ⟨0, _, _, _, _, Nat.zero_le _, rfl, by rw [HN.out]; rfl, HTr, hLe⟩
      case round =>
        obtain ⟨j, v2, r2, Lb, T', hj, rfl, hjl, HTj, HLj⟩ := hrel
        obtain ⟨Au, cu, rfl, hou⟩ := OwnO.ops HTj.out.t HTj.out.ts
        rw [hjl] at hou HTj ⊢
        rcases Nat.lt_or_ge j N with hlt | hge
        · have hki : (j : Int) < (N : Int) := by omega
          obtain ⟨M, hM⟩ : ∃ M, M = N - j := ⟨_, rfl⟩
          rw [← hM] at hjl HTj hou ⊢
          have hM0 : 0 < M := by omega
          have hM4 : M ≤ 400 := by omega
          have HM := Lib.hid hM
          clear hM
          have hn10 : ¬ n1 = 0 := by have := HN1.out; omega
          have hM00 : ¬ M = 0 := by omega
          have hq := Nat.mod_lt j HN1.out
          obtain ⟨b, off, rfl, hbl, d0, _, _⟩ := HPs.out.int_at hq
          have d0 := cell_below HTj.out.a.below hbl d0
          generalize nth ps (j % n1) = x0 at *
          obtain ⟨g1, g2, g3, g4⟩ := pick_range x0 M hM0
          have G1 := Lib.hid g1
          have G2 := Lib.hid g2
          clear g1 g2 hbl
          go_upto_region 16 with (fail)
          have g5 : 0 ≤ (x0.tmod (M : Int) + (M : Int)) % (M : Int) := Int.emod_nonneg _ (by omega)
          have g6 : (x0.tmod (M : Int) + (M : Int)) % (M : Int) < M := Int.emod_lt_of_pos _ (by omega)
          obtain ⟨z, hz1⟩ : ∃ z : Nat, (x0.tmod (M : Int) + (M : Int)) % (M : Int) = (z : Int) := ⟨((x0.tmod (M : Int) + (M : Int)) % (M : Int)).toNat, by omega⟩
          rw [hz1] at g6 ⊢
          have hz : z < M := by omega
          have hzt : z < T'.length := by omega
          clear g3 g4 g5 g6 hz1 d0 G1 G2 hq hn10 hM00
          obtain ⟨b2, off2, rfl, hbl, h11, hsx⟩ := At11.of hou hzt
          have HCode := Lib.hid (HLj.out.code hzt)
          have HLn := Lib.hid (HLj.out.next hzt)
          have HSx := Lib.hid hsx
          have HOu := Lib.hid hou
          have hcu := hou.max
          have hcu2 := hou.le
          generalize T'[z] = x at *
          unfold At11 at h11
          obtain ⟨q0, q1, q2, q3, q4, q5, q6, q7, q8, q9, q10⟩ := h11
          have HI := Lib.hid (tri_ins2 x HSx.out HTj.out)
          rw [HCode.out] at HI
          have hzi : (z : Int) < (M : Int) := by omega
          clear hou hbl hzt hsx
          go_wp2_with fail
          refine HI.out.mono ?_
          rintro e w5 ⟨v5, rfl, ht5⟩
          generalize insO Lb x = Lb' at *
          generalize redO r2 Lb x = r2' at *
          have HT5 := Lib.hid ht5
          obtain ⟨Au2, cu2, eu, hou⟩ := OwnO.ops ht5.t ht5.ts
          rw [hjl] at eu hou
          cases eu
          have HO5 := Lib.hid hou
          clear ht5 hou q0 q1 q2 q3 q4 q5 q6 q7 q8 q9 q10 HI HTj
          have HR0 := Lib.hid (RowO.nil_ (B := w5.heap.size) (w0 := w5) (Below.refl _ _) (Nat.le_refl _))
          go_wp2_with (refine wpList_take_ops w5 rfl (.tmp 93) (.tmp 94) rfl (some ⟨b2, off2, none⟩) M cu z T' rfl rfl HO5.out (Nat.le_of_lt hz) ?_)
          intro s5 hs5
          have HS5 := Lib.hid hs5
          clear hs5
          go_wp2_with (at_builtin; refine wpList_append_C _ rfl (.tmp 92) (.tmp 95) 39 39 rfl 31 i0 (.agg #[.int .i64 0, .int .i64 0, .int .i64 0, .int .i64 0, .int .i64 0, .int .i64 0, .bool false, .int .i64 0, .int .i64 0, .string ⟨#[]⟩, .string ⟨#[]⟩]) 11 Try.underlying39 HI0.out HZ0.out HZ1.out rfl (by decide) w5.heap.size _ 0 ([]) rfl HR0.out.own _ rfl z (ocs (T'.take z)) HS5.out (by unfold maxLen; omega) (by rw [HZ2.out]; omega) (Nat.le_refl _) ?_)
          intro v6 w6 ho6 hg6 hat6
          obtain ⟨A6, cp6, rfl⟩ := OwnC.isSlice ho6
          have HR6 := Lib.hid (HR0.out.more (ys := []) (zs := T'.take z) (m := z) (by rw [List.length_take]; omega) (by rw [show ([] : List TOp).length + z = z from Nat.zero_add _]; exact ho6) hg6)
          clear ho6 hg6 hat6
          rw [List.nil_append] at HR6
          have hl6 : (T'.take z).length = z := by rw [List.length_take]; omega
          have HO6 := Lib.hid (show OwnC w6 w5.heap.size 11 (.slice A6 z cp6) z (ocs (T'.take z)) from by
            have := HR6.out.own
            unfold OwnO at this
            rw [hl6] at this
            exact this)
          have HO5b := Lib.hid (HO5.out.below HR6.out.below)
          have hz400 : z ≤ 400 := by omega
          go_wp2_with (refine wpList_drop_ops w6 rfl (.tmp 98) (.tmp 100) rfl (some ⟨b2, off2, none⟩) M cu (z + 1) T' rfl rfl HO5b.out hz ?_)
          intro s8 hs8
          have HS8 := Lib.hid hs8
          clear hs8
          go_wp2_with (at_builtin; refine wpList_append_C _ rfl (.tmp 97) (.tmp 101) 39 39 rfl 31 i0 (.agg #[.int .i64 0, .int .i64 0, .int .i64 0, .int .i64 0, .int .i64 0, .int .i64 0, .bool false, .int .i64 0, .int .i64 0, .string ⟨#[]⟩, .string ⟨#[]⟩]) 11 Try.underlying39 HI0.out HZ0.out HZ1.out rfl (by decide) w5.heap.size _ z (ocs (T'.take z)) rfl HO6.out _ rfl (M - (z + 1)) (ocs (T'.drop (z + 1))) HS8.out (by unfold maxLen; omega) (by rw [HZ2.out]; omega) HR6.out.le ?_)
          intro v9 w9 ho9 hg9 hat9
          obtain ⟨A9, cp9, rfl⟩ := OwnC.isSlice ho9
          have HR9 := Lib.hid (RowO.more (zs := T'.drop (z + 1)) (m := M - (z + 1)) HR6.out (by rw [List.length_drop, hjl]) (by rw [hl6]; exact ho9) hg9)
          clear ho9 hg9 hat9
          have hl9 : (T'.take z ++ T'.drop (z + 1)).length = N - (j + 1) := by rw [List.length_append, hl6, List.length_drop, hjl, HM.out]; have := HM.out; omega
          have hT9 : Tri w w9 p w.heap.size p2 m2 v v5 r La r2' Lb' (.slice A9 (z + (M - (z + 1))) cp9) (T'.take z ++ T'.drop (z + 1)) := by
            refine HT5.out.anew HR9.out.below HR9.out.own ?_
            intro y hy
            rcases List.mem_append.1 hy with hy | hy
            · exact HT5.out.ts y (List.mem_of_mem_take hy)
            · exact HT5.out.ts y (List.mem_of_mem_drop hy)
          have HT9 := Lib.hid hT9
          generalize List.take z T' ++ List.drop (z + 1) T' = T2 at *
          clear hT9
          go_wp2_with fail
          exact ⟨⟨j + 1, _, _, _, _, by omega, by go_num, hl9, HT9, HLn⟩, by simp [intOf]; omega⟩
        · obtain rfl : j = N := by omega
          have hki : ¬ (j : Int) < (j : Int) := by omega
          obtain rfl : T' = [] := List.eq_nil_of_length_eq_zero (by rw [hjl]; omega)
          have hend := HLj.out.end_
          rw [hend] at HTj
          have HO := Lib.hid (ops_live HTj.out.a)
          have hla : La.length ≤ 400 := HLj.out.len
          have HSr := Lib.hid HLj.out.sa
          clear hou hend HLj hjl hj hge
          go_wp2_with fail
          refine HO.out.mono ?_
          rintro e w5 ⟨A5, c5, rfl, ho5, hb5⟩
          have hm5 := ho5.max
          have hl5 := ho5.le
          have HO5 := Lib.hid ho5
          have HT5 := Lib.hid (HTj.out.then_ hb5)
          obtain ⟨S, hS⟩ : ∃ S, S = La.length := ⟨_, rfl⟩
          rw [← hS] at HO5 hl5 hla ⊢
          have HS := Lib.hid hS
          clear ho5 hb5 HO hS HTj
          go_wp2_with fail
          go_loopw [14] (fun i wr => ∃ (j : Nat), j ≤ S + 1 ∧ 1 ≤ j ∧ i = .int .i64 j ∧ RowKit.Hid (Below w5.heap.size w5 wr)) (fun i _ => S - (intOf i).toNat)
          case atStart => exact ⟨1, by omega, Nat.le_refl _, rfl, Lib.hid (Below.refl _ _)⟩
          case round =>
            obtain ⟨q, hq, hq1, rfl, HBw⟩ := hrel
            obtain ⟨q, rfl⟩ : ∃ q0, q = q0 + 1 := ⟨q - 1, by omega⟩
            rcases Nat.lt_or_ge (q + 1) S with hlt | hge
            · have hji : (q : Int) + 1 < (S : Int) := by omega
              have hjl : q + 1 < La.length := by rw [← HS.out]; exact hlt
              have hjl2 : q < La.length := by omega
              obtain ⟨b, off, rfl, hbl, h11, -⟩ := At11.of (HO5.out.below HBw.out) hjl
              obtain ⟨b2, off2, e2, hbl2, h11b, -⟩ := At11.of (HO5.out.below HBw.out) hjl2
              cases e2
              have hls : lessS La[q].st La[q + 1].st = true := HSr.out.at_ hjl2 hjl (by omega)
              obtain ⟨y, hy⟩ : ∃ y, y = La[q] := ⟨_, rfl⟩
              obtain ⟨x, hx⟩ : ∃ x, x = La[q + 1] := ⟨_, rfl⟩
              rw [← hy] at hls h11b
              rw [← hx] at hls h11
              have HLs := Lib.hid hls
              unfold At11 at h11 h11b
              obtain ⟨p0, p1, -⟩ := h11b
              obtain ⟨q0, q1, -⟩ := h11
              have m0 := fun u : After wr => u.cell p0
              have m1 := fun u : After wr => u.cell p1
              have m2' := fun u : After wr => u.cell q0
              have m3 := fun u : After wr => u.cell q1
              clear hjl hjl2 hls hy hx p0 p1 q0 q1
              go_upto_region 25 with (fail)
              refine wp_region_after (by kernel_rfl) (by kernel_rfl) ?_
              repeat (go_big_quiet_step ((go_at_call 15; exact after_call ((less_exact y.st x.st _).mono fun e w' h => ⟨by rw [h.1, HLs.out], by rw [h.2]; exact ((Below.refl _ _).alloc (Nat.le_refl _) _).alloc (by simp) _⟩))))
              refine wpQuiet_nil ?_
              rintro _ ⟨u, rfl⟩
              have HBu := Lib.hid (HBw.out.trans (u.below.mono HBw.out.size))
              clear m0 m1 m2' m3
              go_wp2_with fail
              exact ⟨⟨q + 2, by omega, by omega, by go_num, HBu⟩, by simp [intOf]; omega⟩
            · have hji : ¬ (q : Int) + 1 < (S : Int) := by omega
              have HT6 := Lib.hid (HT5.out.then_ HBw.out)
              have HO6 := Lib.hid (HO5.out.below HBw.out)
              have HOb := Lib.hid (ops_live HT6.out.b)
              rw [← HS.out] at HOb
              clear hq hq1 hge
              go_wp2_with fail
              refine HOb.out.mono ?_
              rintro e w7 ⟨A7, c7, rfl, ho7, hb7⟩
              have HO7 := Lib.hid ho7
              have HO67 := Lib.hid (HO6.out.below hb7)
              have HT7 := Lib.hid (HT6.out.then_ hb7)
              clear ho7 hb7 HOb
              go_wp2_with fail
              refine (osame_any A5 A7 _ c5 c7 La _ HO67.out HO7.out).mono ?_
              rintro e w8 ⟨rfl, hb8⟩
              have HT8 := Lib.hid (HT7.out.then_ hb8)
              have HO8 := Lib.hid (HO67.out.below hb8)
              clear hb8
              have HNa := Lib.hid (nodes_live HT8.out.a)
              go_wp2_with fail
              refine HNa.out.mono ?_
              rintro e w9 ⟨A9, c9, rfl, hn9, hb9⟩
              have HT9 := Lib.hid (HT8.out.then_ hb9)
              have HO9 := Lib.hid (HO8.out.below hb9)
              have HN9 := Lib.hid hn9
              clear hn9 hb9 HNa
              have HNb := Lib.hid (nodes_live HT9.out.b)
              go_wp2_with fail
              refine HNb.out.mono ?_
              rintro e w10 ⟨A10, c10, rfl, hn10, hb10⟩
              have HT10 := Lib.hid (HT9.out.then_ hb10)
              have HO10 := Lib.hid (HO9.out.below hb10)
              have HN10 := Lib.hid hn10
              have HN9b := Lib.hid (HN9.out.below hb10)
              clear hn10 hb10 HNb
              go_wp2_with fail
              refine (same_any A9 A10 _ c9 c10 (foldN La) _ HN9b.out HN10.out).mono ?_
              rintro e w11 ⟨rfl, hb11⟩
              have HT11 := Lib.hid (HT10.out.then_ hb11)
              have HO11 := Lib.hid (HO10.out.below hb11)
              clear hb11
              have HNa := Lib.hid (nodes_live HT11.out.a)
              go_wp2_with fail
              refine HNa.out.mono ?_
              rintro e w12 ⟨A12, c12, rfl, hn12, hb12⟩
              have HT12 := Lib.hid (HT11.out.then_ hb12)
              have HO12 := Lib.hid (HO11.out.below hb12)
              have HN12 := Lib.hid hn12
              clear hn12 hb12 HNa
              have HF12 := Lib.hid (fold_any A5 S c5 La w12 HO12.out (by omega))
              go_wp2_with fail
              refine HF12.out.mono ?_
              rintro e w13 ⟨A13, c13, rfl, hn13, hb13⟩
              have HT13 := Lib.hid (HT12.out.then_ hb13)
              have HN13 := Lib.hid hn13
              have HN12b := Lib.hid (HN12.out.below hb13)
              clear hn13 hb13 HF12
              go_wp2_with fail
              refine (same_any A12 A13 _ c12 c13 (foldN La) _ HN12b.out HN13.out).mono ?_
              rintro e w14 ⟨rfl, hb14⟩
              have HB14 := Lib.hid (HT13.out.then_ hb14).a.below
              clear hb14
              go_wp2_with fail
              refine (AW.out _ HB14.out).mono ?_
              rintro e w15 ⟨rfl, hb15⟩
              have HB15 := Lib.hid hb15
              clear hb15
              go_wp2_with fail
              go_ret
              exact ⟨rfl, HB15.out⟩
end Go.Proofs.Ytaglomhmnoldlaa
