/- The walk of MoveOps. -/
import Derived.Test.YtaglomhmnoldlaaL5
namespace Go.Proofs.Ytaglomhmnoldlaa
open Go.RowKit
attribute [local go_sem] bs_size bs_getElem bs_list bs_append

theorem bits_op (x : TOp) : Instr.sameBits 10000 (ov x) (ov x) = true := by
  simp [Instr.sameBits, ov]
  constructor
  · rw [beq_toListBytes]; exact beq_self_eq_true _
  · rw [beq_toListBytes]; exact beq_self_eq_true _
theorem check_op (e : Bool) (x : TOp) (n : Nat) (w : World) : (Instr.checkKey e (n + 3) 31 (ov x)).run Try.prog w = .ok () w := by
  unfold ov
  simp [go_sem, Instr.checkKey, run_underlying Try.underlying31, run_underlying Try.underlying27, run_underlying Try.underlying3]
theorem eq_op (x y : TOp) (w : World) : (Op.equalIn 10000 31 (ov x) (ov y)).run Try.prog w = .ok (decide (x = y)) w := by
  unfold ov
  simp [go_sem]
  by_cases e1 : x.st.1 = y.st.1
  case neg => rw [if_neg e1, decide_eq_false (fun e => e1 (by rw [e]))]
  by_cases e2 : x.st.2 = y.st.2
  case neg => rw [if_pos e1, if_neg e2, decide_eq_false (fun e => e2 (by rw [e]))]
  by_cases e3 : x.seq = y.seq
  case neg => rw [if_pos e1, if_pos e2, if_neg e3, decide_eq_false (fun e => e3 (by rw [e]))]
  by_cases e4 : x.kind = y.kind
  case neg => rw [if_pos e1, if_pos e2, if_pos e3, if_neg e4, decide_eq_false (fun e => e4 (by rw [e]))]
  by_cases e5 : x.node.1 = y.node.1
  case neg => rw [if_pos e1, if_pos e2, if_pos e3, if_pos e4, if_neg e5, decide_eq_false (fun e => e5 (by rw [e]))]
  by_cases e6 : x.node.2 = y.node.2
  case neg => rw [if_pos e1, if_pos e2, if_pos e3, if_pos e4, if_pos e5, if_neg e6, decide_eq_false (fun e => e6 (by rw [e]))]
  by_cases e7 : x.dir = y.dir
  case neg => rw [if_pos e1, if_pos e2, if_pos e3, if_pos e4, if_pos e5, if_pos e6, if_neg e7, decide_eq_false (fun e => e7 (by rw [e]))]
  by_cases e8 : x.par.1 = y.par.1
  case neg => rw [if_pos e1, if_pos e2, if_pos e3, if_pos e4, if_pos e5, if_pos e6, if_pos e7, if_neg e8, decide_eq_false (fun e => e8 (by rw [e]))]
  by_cases e9 : x.par.2 = y.par.2
  case neg => rw [if_pos e1, if_pos e2, if_pos e3, if_pos e4, if_pos e5, if_pos e6, if_pos e7, if_pos e8, if_neg e9, decide_eq_false (fun e => e9 (by rw [e]))]
  by_cases e10 : x.nm = y.nm
  case neg => rw [if_pos e1, if_pos e2, if_pos e3, if_pos e4, if_pos e5, if_pos e6, if_pos e7, if_pos e8, if_pos e9, if_neg e10, decide_eq_false (fun e => e10 (by rw [e]))]
  by_cases e11 : x.mf = y.mf
  case neg => rw [if_pos e1, if_pos e2, if_pos e3, if_pos e4, if_pos e5, if_pos e6, if_pos e7, if_pos e8, if_pos e9, if_pos e10, if_neg e11, decide_eq_false (fun e => e11 (by rw [e]))]
  rw [if_pos e1, if_pos e2, if_pos e3, if_pos e4, if_pos e5, if_pos e6, if_pos e7, if_pos e8, if_pos e9, if_pos e10, if_pos e11, decide_eq_true]
  cases x; cases y
  simp only [TOp.mk.injEq]
  exact ⟨Prod.ext e1 e2, e3, e4, Prod.ext e5 e6, e7, Prod.ext e8 e9, e10, e11⟩
theorem mapOp : MapTy Try.prog ov 47 31 4 (.bool false) where
  map_ := by kernel_rfl
  zero := fun w => by simp [go_sem]
  eq := fun x y w => eq_op x y w
  check := fun e x w => check_op e x 9997 w
  wide := ⟨_, Try.underlying31, fun a b => rfl⟩
  bits := bits_op
/-- the map of those that were taken -/
def Ins (w : World) (M : Nat) (l : List TOp) : Prop := ∃ f, MapF ov w M f ∧ ∀ s, (f s).getD (.bool false) = .bool (decide (s ∈ l))
theorem Ins.new (w : World) : Ins (w.alloc (.map #[] 0)) w.heap.size [] := ⟨_, MapF.new w, fun s => by simp⟩
theorem Ins.heap {w w' : World} {M : Nat} {l : List TOp} (h : Ins w M l) (hb : w'.heap[M]? = w.heap[M]?) : Ins w' M l := by
  obtain ⟨f, h1, h2⟩ := h
  exact ⟨f, h1.heap hb, h2⟩
theorem Ins.lt {w : World} {M : Nat} {l : List TOp} (h : Ins w M l) : M < w.heap.size := by
  obtain ⟨f, h1, _⟩ := h
  exact h1.lt
theorem Ins.below {w w' : World} {M : Nat} {l : List TOp} (h : Ins w M l) (hb : Below w.heap.size w w') : Ins w' M l := h.heap (hb.block M h.lt)
theorem Ins.look {w : World} {M : Nat} {l : List TOp} (h : Ins w M l) (s : TOp) : (Instr.lookup 47 (.map (some M)) (ov s) false).run Try.prog w = .ok (.bool (decide (s ∈ l))) w := by
  obtain ⟨f, h1, h2⟩ := h
  rw [h1.look mapOp s, h2]
theorem Ins.add {w : World} {M : Nat} {l l' : List TOp} (h : Ins w M l) (x : TOp) (hl : ∀ y, y ∈ l' ↔ y = x ∨ y ∈ l) :
    ∃ w1, (Instr.mapUpdate 47 (.map (some M)) (ov x) (.bool true)).run Try.prog w = .ok () w1 ∧ Ins w1 M l' ∧ w.grownBy w1 (some M) ∧ w1.heap.size = w.heap.size := by
  obtain ⟨f, h1, h2⟩ := h
  obtain ⟨w1, e1, e2, e3, e4⟩ := h1.update mapOp x (.bool true)
  refine ⟨w1, e1, ⟨_, e2, fun y => ?_⟩, e3, e4⟩
  by_cases c : y = x
  · simp [c, (hl x).2 (.inl rfl)]
  · simp only [if_neg c]
    rw [h2 y]
    simp [hl y, c]
theorem run_make47 (w : World) : (Instr.makeMap 47 none).run Try.prog w = .ok (.map (some w.heap.size)) (w.alloc (.map #[] 0)) := by simp [Instr.makeMap, go_sem]

theorem mem_add (L : List TOp) (x : TOp) : ∀ y, y ∈ addO L x ↔ y = x ∨ y ∈ L := by
  intro y
  unfold addO
  rw [List.mem_append, List.mem_cons]
  have h : y ∈ L ↔ y ∈ L.take (atO L x.st) ∨ y ∈ L.drop (atO L x.st) := by
    rw [← List.mem_append, List.take_append_drop]
  rw [h]
  constructor
  · rintro (h1 | h1 | h1)
    · exact .inr (.inl h1)
    · exact .inl h1
    · exact .inr (.inr h1)
  · rintro (h1 | h1 | h1)
    · exact .inr (.inl h1)
    · exact .inl h1
    · exact .inr (.inr h1)

/-- the state and the map, apart -/
structure Both (w wr : World) (p m M : Nat) (v : Value) (r : Int) (L : List TOp) : Prop where
  live : Live w wr p m v r L
  map : Ins wr M L
  M_ge : w.heap.size ≤ M
  np : M ≠ p
  nm : M ≠ m
  nv : v.ownBlock ≠ some M
section
variable {w wr w' : World} {p m M : Nat} {v v' : Value} {r r' : Int} {L L' : List TOp}
theorem Both.then_ (h : Both w wr p m M v r L) (hb : Below wr.heap.size wr w') : Both w w' p m M v r L :=
  ⟨h.live.then_ hb, h.map.below hb, h.M_ge, h.np, h.nm, h.nv⟩
theorem ins_both (x : TOp) (hx : OpS x) (h : Both w wr p m M v r L) :
    Calls Try.prog 12 #[.pointer (some ⟨p, 0, none⟩), ov x] wr fun e w' => ∃ v', e = .returned (.int .i64 (codeO L x)) ∧ Live w w' p m v' (redO r L x) (insO L x) ∧ Ins w' M L ∧ v'.ownBlock ≠ some M ∧ Below w.heap.size w w' := by
  refine (insert_live x hx p m v r L w wr h.live).mono ?_
  rintro e w' ⟨v', rfl, hl, hk, ho⟩
  have hlt := h.map.lt
  refine ⟨v', rfl, hl, h.map.heap (hk.block M hlt h.np h.nm (fun e => h.nv e.symm)), fun e => ?_, hl.below⟩
  rcases ho M e with h1 | h1
  · exact h.nv h1
  · omega
theorem Both.put {l : List TOp} (hl : Live w wr p m v r L) (hm : Ins w' M L) (hg : wr.grownBy w' (some M)) (hM : w.heap.size ≤ M) (h1 : M ≠ p) (h2 : M ≠ m) (h3 : v.ownBlock ≠ some M) (_ : l = l) : Both w w' p m M v r L := by
  have hs : Stt w' p m v r (foldE L) := hl.mov.s3.stt.grownO hg (fun e => h1 (Option.some.inj e).symm) (fun e => h2 (Option.some.inj e).symm)
  have hlog := OwnC.kept hl.mov.s3.log hg (.inr h3)
  exact ⟨⟨⟨⟨hs, hlog, hl.mov.s3.nep, hl.mov.s3.nem⟩, hl.mov.sorted, hl.mov.len, hl.mov.p_ge, hl.mov.m_ge⟩, below_gb hl.below hg hM hl.below.size, hl.short⟩, hm, hM, h1, h2, h3⟩
end

set_option maxRecDepth 100000 in
set_option maxHeartbeats 3200000 in
theorem law_ops (A : Option Addr) (n c : Nat) (l : List TOp) (w : World) (hx : Ops w A n c l) :
    Calls Try.prog 7 #[.slice A n c] w fun e w' => e = .returned (.bool true) ∧ Below w.heap.size w w' := by
  have hn := hx.len
  have hmx := hx.max
  have hle := hx.le
  have AW : RowKit.Hid (∀ w2, Below w.heap.size w w2 → Calls Try.prog 9 #[] w2 fun e w' => e = .returned (.bool true) ∧ Below w.heap.size w w') := Lib.hid (fun w2 hb => (awake_any w2).mono fun e w9 h => ⟨h.1, hb.trans (h.2.mono hb.size)⟩)
  have HX := Lib.hid hx
  have HNew := Lib.hid (new_live w)
  clear hx
  go_enter Try.func7, Try.ntmps7
  go_wp2_with fail
  refine HNew.out.mono ?_
  rintro e w1 ⟨rfl, hl⟩
  have HL1 := Lib.hid hl
  clear hl HNew
  have HP : RowKit.Hid (w.heap.size < w.heap.size + 1) := Lib.hid (by omega)
  generalize hp : w.heap.size + 1 = p at *
  have HF := Lib.hid (few120_is A n c l w1 (HX.out.below HL1.out.below))
  cases hf : fewC l with
  | false =>
    rw [hf] at HF
    clear hf
    go_wp2_with fail
    refine HF.out.mono ?_
    rintro e w2 ⟨rfl, hb2⟩
    have HB2 := Lib.hid (HL1.out.below.trans (hb2.mono HL1.out.below.size))
    clear hb2
    go_wp2_with fail
    refine (AW.out _ HB2.out).mono ?_
    rintro e w9 ⟨rfl, hb9⟩
    have HB9 := Lib.hid hb9
    clear hb9
    go_wp2_with fail
    go_ret
    exact ⟨rfl, HB9.out⟩
  | true =>
    have HLen : RowKit.Hid (n ≤ 120) := Lib.hid (by rw [← hn]; exact fewC_le hf)
    rw [hf] at HF
    clear hf
    go_wp2_with fail
    refine HF.out.mono ?_
    rintro e w2 ⟨rfl, hb2⟩
    have HL2 := Lib.hid (HL1.out.then_ hb2)
    clear hb2
    have hmk := run_make47 w2
    have hB : Both w (w2.alloc (.map #[] 0)) p w.heap.size w2.heap.size (.slice none 0 0) 0 [] := by
      have hlt := HL2.out.p_lt
      have hlm := HL2.out.m_lt
      exact ⟨HL2.out.then_ ((Below.refl _ _).alloc (Nat.le_refl _) _), Ins.new w2, HL2.out.size, by omega, by omega, by simp [Value.ownBlock]⟩
    have HB := Lib.hid hB
    clear hB
    go_upto_region 5 with (fail)
    generalize hpr : w2.heap.size = M at *
    clear hpr hmk
    go_wp2_with fail
    go_loopw [5, 6] (fun t i wr => ∃ (k : Nat) (v : Value) (r : Int) (L : List TOp), k ≤ n ∧ L.length ≤ k ∧ i = .int .i64 k ∧ t = .int .i64 (L.length : Nat) ∧ RowKit.Hid (Both w wr p w.heap.size M v r L)) (fun _ i _ => n - (intOf i).toNat)
    case atStart => exact ⟨0, _, _, [], Nat.zero_le _, Nat.le_refl _, rfl, rfl, HB⟩
    case round =>
      obtain ⟨k, v, r, L, hk, hLk, rfl, rfl, HBr⟩ := hrel
      rcases Nat.lt_or_ge k n with hlt | hge
      · have hki : (k : Int) < (n : Int) := by omega
        have hn120 : n ≤ 120 := HLen.out
        obtain ⟨b, off, rfl, hbl, h11, hsx⟩ := At11.of HX.out (by omega : k < l.length)
        have HC : RowKit.Hid (∀ w', Below w.heap.size w w' → At11 w' b (off + k * 11) l[k]) := Lib.hid (fun w' hb => h11.below hb hbl)
        clear h11 hbl
        generalize l[k] = x at *
        have HSx := Lib.hid hsx
        clear hsx
        unfold At11 at HC
        obtain ⟨q0, q1, q2, q3, q4, q5, q6, q7, q8, q9, q10⟩ := HC.out wr HBr.out.live.below
        have HI := Lib.hid (ins_both x HSx.out HBr.out)
        have hn120b : k < 120 := by omega
        by_cases hc : codeO L x = 0
        · have hins : insO L x = addO L x := by unfold insO; rw [if_pos hc]
          rw [hc, hins] at HI
          have HLn := Lib.hid (addO_len L x)
          have HMm := Lib.hid (mem_add L x)
          clear hins hc
          generalize redO r L x = r' at *
          generalize addO L x = L' at *
          go_wp2_with fail
          refine HI.out.mono ?_
          rintro e w3 ⟨v3, rfl, hl3, hm3, ho3, hb3⟩
          have HL3 := Lib.hid hl3
          obtain ⟨w4, e4, hm4, hg4, _⟩ := hm3.add x HMm.out
          have HB4 := Lib.hid (Both.put (l := L) hl3 hm4 hg4 HBr.out.M_ge HBr.out.np HBr.out.nm ho3 rfl)
          clear hl3 hm3 ho3 hm4 hg4 q0 q1 q2 q3 q4 q5 q6 q7 q8 q9 q10
          obtain ⟨q0, q1, q2, q3, q4, q5, q6, q7, q8, q9, q10⟩ := HC.out w3 hb3
          unfold ov at e4
          clear hb3 HI
          have hLk2 : L.length < 120 := by omega
          go_wp2_with fail
          exact ⟨⟨k + 1, _, _, L', by omega, by rw [HLn.out]; omega, by go_num, by rw [HLn.out]; go_num, HB4⟩, by simp [intOf]; omega⟩
        · have hins : insO L x = L := by unfold insO; rw [if_neg hc]
          rw [hins] at HI
          have hcd : (codeO L x == 0) = false := by simpa using hc
          generalize codeO L x = cd at *
          clear hins hc
          generalize redO r L x = r' at *
          go_wp2_with fail
          refine HI.out.mono ?_
          rintro e w3 ⟨v3, rfl, hl3, hm3, ho3, hb3⟩
          have HB4 := Lib.hid (⟨hl3, hm3, HBr.out.M_ge, HBr.out.np, HBr.out.nm, ho3⟩ : Both w w3 p w.heap.size M v3 r' L)
          clear hl3 hm3 ho3 q0 q1 q2 q3 q4 q5 q6 q7 q8 q9 q10 hb3 HI
          go_wp2_with fail
          exact ⟨⟨k + 1, _, _, L, by omega, by omega, by go_num, rfl, HB4⟩, by simp [intOf]; omega⟩
      · have hki : ¬ (k : Int) < (n : Int) := by omega
        have hLn : L.length ≤ 120 := by have := HLen.out; omega
        have HO := Lib.hid (ops_live HBr.out.live)
        clear hk hLk hge
        go_wp2_with fail
        refine HO.out.mono ?_
        rintro e w3 ⟨A3, c3, rfl, ho3, hb3⟩
        have hm3 := ho3.max
        have hl3 := ho3.le
        have HO3 := Lib.hid ho3
        have HB3 := Lib.hid (HBr.out.then_ hb3)
        have HSr := Lib.hid HBr.out.live.mov.sorted
        obtain ⟨S, hS⟩ : ∃ S, S = L.length := ⟨_, rfl⟩
        rw [← hS] at HO3 hl3 hLn ⊢
        have HS := Lib.hid hS
        clear ho3 hb3 HO hS
        go_wp2_with fail
        go_loopw [8] (fun i wr => ∃ (j : Nat), j ≤ S ∧ i = .int .i64 j ∧ RowKit.Hid (Below w3.heap.size w3 wr)) (fun i _ => S - (intOf i).toNat)
        case atStart => exact ⟨0, Nat.zero_le _, rfl, Lib.hid (Below.refl _ _)⟩
        case round =>
          obtain ⟨j, hj, rfl, HBw⟩ := hrel
          rcases Nat.lt_or_ge j S with hlt | hge
          · have hji : (j : Int) < (S : Int) := by omega
            have hjl : j < L.length := by rw [← HS.out]; exact hlt
            obtain ⟨b, off, rfl, hbl, h11, -⟩ := At11.of (HO3.out.below HBw.out) hjl
            have hlk : ∀ u : After wr, (Instr.lookup 47 (.map (some M)) (ov L[j]) false).run Try.prog u.wd = .ok (.bool true) u.wd := fun u => by
              have := ((HB3.out.map.below HBw.out).below u.below).look L[j]
              rw [decide_eq_true (List.getElem_mem hjl)] at this
              exact this
            unfold At11 at h11
            obtain ⟨q0, q1, q2, q3, q4, q5, q6, q7, q8, q9, q10⟩ := h11
            have k0 := fun u : After wr => u.cell q0
            have k1 := fun u : After wr => u.cell q1
            have k2 := fun u : After wr => u.cell q2
            have k3 := fun u : After wr => u.cell q3
            have k4 := fun u : After wr => u.cell q4
            have k5 := fun u : After wr => u.cell q5
            have k6 := fun u : After wr => u.cell q6
            have k7 := fun u : After wr => u.cell q7
            have k8 := fun u : After wr => u.cell q8
            have k9 := fun u : After wr => u.cell q9
            have k10 := fun u : After wr => u.cell q10
            clear q0 q1 q2 q3 q4 q5 q6 q7 q8 q9 q10
            cases j with
            | zero =>
              generalize L[0] = x at *
              clear hjl
              simp only [Nat.zero_mul, Nat.add_zero] at k0 k1 k2 k3 k4 k5 k6 k7 k8 k9 k10
              unfold ov at hlk
              go_upto_region 16 with (fail)
              refine wp_region_after (by kernel_rfl) (by kernel_rfl) ?_
              repeat (go_big_quiet_step (fail))
              refine wpQuiet_nil ?_
              rintro _ ⟨u, rfl⟩
              have HBu := Lib.hid (HBw.out.trans (u.below.mono HBw.out.size))
              clear k0 k1 k2 k3 k4 k5 k6 k7 k8 k9 k10 hlk
              go_wp2_with fail
              exact ⟨⟨1, by omega, by go_num, HBu⟩, by simp [intOf]; omega⟩
            | succ j =>
              have hjl2 : j < L.length := by omega
              obtain ⟨b2, off2, e2, hbl2, h11b, -⟩ := At11.of (HO3.out.below HBw.out) hjl2
              cases e2
              have hls : lessS L[j].st L[j + 1].st = true := HSr.out.at_ hjl2 hjl (by omega)
              obtain ⟨y, hy⟩ : ∃ y, y = L[j] := ⟨_, rfl⟩
              obtain ⟨x, hx⟩ : ∃ x, x = L[j + 1] := ⟨_, rfl⟩
              rw [← hy] at hls h11b
              rw [← hx] at hls hlk k0 k1 k2 k3 k4 k5 k6 k7 k8 k9 k10
              have HLs := Lib.hid hls
              unfold At11 at h11b
              obtain ⟨p0, p1, -⟩ := h11b
              have m0 := fun u : After wr => u.cell p0
              have m1 := fun u : After wr => u.cell p1
              unfold ov at hlk
              clear hjl hjl2 hls hy hx p0 p1
              go_upto_region 16 with (fail)
              refine wp_region_after (by kernel_rfl) (by kernel_rfl) ?_
              repeat (go_big_quiet_step ((go_at_call 15; exact after_call ((less_exact y.st x.st _).mono fun e w' h => ⟨by rw [h.1, HLs.out], by rw [h.2]; exact ((Below.refl _ _).alloc (Nat.le_refl _) _).alloc (by simp) _⟩))))
              refine wpQuiet_nil ?_
              rintro _ ⟨u, rfl⟩
              have HBu := Lib.hid (HBw.out.trans (u.below.mono HBw.out.size))
              clear k0 k1 k2 k3 k4 k5 k6 k7 k8 k9 k10 hlk m0 m1
              go_wp2_with fail
              exact ⟨⟨j + 2, by omega, by go_num, HBu⟩, by simp [intOf]; omega⟩
          · obtain rfl : j = S := by omega
            have hji : ¬ (j : Int) < (j : Int) := by omega
            have HB9 := Lib.hid (HB3.out.live.below.trans (HBw.out.mono HB3.out.live.below.size))
            go_wp2_with fail
            refine (AW.out _ HB9.out).mono ?_
            rintro e w9 ⟨rfl, hb9⟩
            have HB10 := Lib.hid hb9
            clear hb9
            go_wp2_with fail
            go_ret
            exact ⟨rfl, HB10.out⟩
end Go.Proofs.Ytaglomhmnoldlaa
