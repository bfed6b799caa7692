/- The log in memory; BinarySearchFunc. -/
import Derived.Test.YtaglomhmnoldlaaSc
namespace Go.Proofs.Ytaglomhmnoldlaa
open Go.RowKit
attribute [local go_sem] bs_size bs_getElem bs_list bs_append

def rcs (l : List Rec) : List Value := l.flatMap rc
theorem rcs_len (l : List Rec) : (rcs l).length = l.length * 20 := by
  induction l with
  | nil => rfl
  | cons x l ih => simp only [rcs, List.flatMap_cons, List.length_append, List.length_cons] at ih ⊢; rw [ih, rc_len]; omega
theorem rcs_at (l : List Rec) (k j : Nat) (hk : k < l.length) (hj : j < 20) : (rcs l)[k * 20 + j]? = (rc l[k])[j]? := by
  induction l generalizing k with
  | nil => simp at hk
  | cons x l ih =>
    cases k with
    | zero =>
      simp only [rcs, List.flatMap_cons]
      rw [List.getElem?_append_left (by rw [rc_len]; omega)]
      simp
    | succ k =>
      have := ih k (by simpa using hk)
      simp only [rcs, List.flatMap_cons] at this ⊢
      rw [List.getElem?_append_right (by rw [rc_len]; omega)]
      rw [show (k + 1) * 20 + j - (rc x).length = k * 20 + j from by rw [rc_len]; omega, this]
      simp
/-- a slice of records that can be read -/
def Rds (w : World) (A : Option Addr) (n c : Nat) (l : List Rec) : Prop := l.length = n ∧ n ≤ c ∧ c ≤ 9223372036854775807 ∧ ∀ k (hk : k < l.length), ∃ g, A = some ⟨g, 0, none⟩ ∧ RecAt w g (k * 20) l[k]
theorem Rds.below {w w' : World} {A : Option Addr} {n c : Nat} {l : List Rec} (h : Rds w A n c l) (hb : Below w.heap.size w w') : Rds w' A n c l :=
  ⟨h.1, h.2.1, h.2.2.1, fun k hk => by obtain ⟨g, e, hr⟩ := h.2.2.2 k hk; exact ⟨g, e, hr.below hb⟩⟩
/-- the log: a slice of one's own -/
abbrev Log (w : World) (B : Nat) (v : Value) (l : List Rec) : Prop := OwnC w B 20 v l.length (rcs l)
theorem Log.rds {w : World} {B : Nat} {v : Value} {l : List Rec} (h : Log w B v l) : ∃ A c, v = .slice A l.length c ∧ Rds w A l.length c l := by
  rcases h.2 with ⟨rfl, h0⟩ | ⟨g, cap, rfl, hb, hlt, hnc, hcm, hs, hf, hx⟩
  · obtain rfl := List.eq_nil_of_length_eq_zero h0
    exact ⟨none, 0, rfl, rfl, Nat.le_refl _, by omega, fun k hk => absurd hk (by simp)⟩
  · refine ⟨_, cap, rfl, rfl, hnc, by unfold maxLen at hcm; omega, fun k hk => ⟨g, rfl, hlt, fun j u hu => hx _ u ?_⟩⟩
    have hj : j < 20 := by
      rcases Nat.lt_or_ge j 20 with h | h
      · exact h
      · rw [List.getElem?_eq_none (by rw [rc_len]; exact h)] at hu; cases hu
    rw [rcs_at l k j hk hj]
    exact hu

/-- a struct is loaded, in a walk through a region that draws its order -/
theorem quiet_load_mid {P : Program} {C : World → Prop} {K : Act → Prop} {o : Oper} {a : Act} (ty : TypeId) (x : Operand) (ho : o.op = .load ty x) (b off : Nat) (hx : a.eval x = .pointer (some ⟨b, off, none⟩)) (cs : List Value) (d : TypeDesc) (hc : ∀ w, C w → w.rangeAt b off cs)
    (hu : P.underlying ty = some d) (hd : d.isRow = true) (hi : (P.info? ty).map (·.size) = some cs.length) (hk : K (a.put o.dst (.agg cs.toArray))) : o.quiet P a C K :=
  ⟨_, fun w hw => by
    unfold Oper.quietAt execOp
    simp only [ho, hx, Instr.loadAt, Instr.sureAddr, Sem.run_bind, Sem.run_pure, Result.andThen_ok, run_loadVar_mid w b off ty cs d (hc w hw) hu hd hi]
    exact ⟨rfl, rfl⟩, hk⟩

/-- what BinarySearchFunc answers -/
def Found (s : St) (l : List Rec) (w : World) (e : Ending) (w' : World) : Prop :=
  ∃ (a : Nat) (t : Bool), a ≤ l.length ∧ (∀ j (hj : j < l.length), j < a → cmpS l[j].op.st s < 0) ∧ (∀ j (hj : j < l.length), a ≤ j → ¬ cmpS l[j].op.st s < 0) ∧
    t = decide (∃ ha : a < l.length, cmpS l[a].op.st s = 0) ∧ e = .returned (.tuple #[.int .i64 a, .bool t]) ∧ Below w.heap.size w w'

set_option maxRecDepth 100000 in
set_option maxHeartbeats 3200000 in
theorem search_any (s : St) (A : Option Addr) (n c : Nat) (l : List Rec) (w : World) (h : Rds w A n c l) (hn : n ≤ 1000000) (hmono : ∀ i j (hi : i < l.length) (hj : j < l.length), i ≤ j → cmpS l[j].op.st s < 0 → cmpS l[i].op.st s < 0) :
    Calls Try.prog 23 #[.slice A n c, sv s, .func (.func 24) #[] #[]] w (Found s l w) := by
  have hb1 : Below w.heap.size w (w.alloc (.cells #[.int .i64 s.1, .int .i64 s.2] 27)) := (Below.refl _ w).alloc (Nat.le_refl _) _
  have hB := Blk.new w 27 #[.int .i64 s.1, .int .i64 s.2]
  have hln := h.1
  have HM := Lib.hid hmono
  have HX := Lib.hid h
  obtain ⟨w1, hw1⟩ : ∃ w1, w1 = w.alloc (.cells #[.int .i64 s.1, .int .i64 s.2] 27) := ⟨_, rfl⟩
  rw [← hw1] at hb1 hB
  have HW := Lib.hid hw1
  have HB := Lib.hid hb1
  have HBk := Lib.hid hB
  have hl1 := hB.lt
  clear hw1 hb1 hB h hmono
  unfold sv
  go_enter Try.func23, Try.ntmps23
  go_wp2_with fail
  rw [← HW.out]
  go_wp2_with fail
  go_loopw [9, 10] (fun i j wr => ∃ lo hi : Nat, lo ≤ hi ∧ hi ≤ n ∧ i = .int .i64 lo ∧ j = .int .i64 hi ∧ Below w1.heap.size w1 wr ∧ (∀ j (hj : j < l.length), j < lo → cmpS l[j].op.st s < 0) ∧ (∀ j (hj : j < l.length), hi ≤ j → ¬ cmpS l[j].op.st s < 0)) (fun i j _ => (intOf j).toNat - (intOf i).toNat)
  case atStart => exact ⟨0, n, by omega, Nat.le_refl _, rfl, rfl, Below.refl _ _, fun j _ h => by omega, fun j hj h => by omega⟩
  case round =>
    obtain ⟨lo, hi, hlh, hhn, rfl, rfl, hbr, hlo, hhi⟩ := hrel
    rcases Nat.lt_or_ge lo hi with hlt | hge
    · have hki : (lo : Int) < (hi : Int) := by omega
      have HLo := Lib.hid hlo
      have HHi := Lib.hid hhi
      have HBr := Lib.hid hbr
      clear hlo hhi hbr
      obtain ⟨md, hmd⟩ : ∃ md, md = (lo + hi) / 2 := ⟨_, rfl⟩
      have emd : ((lo : Int) + (hi : Int)) / 2 = (md : Int) := by omega
      have hm1 : lo ≤ md := by omega
      have hm2 : md < hi := by omega
      have hml : md < l.length := by omega
      obtain ⟨g, rfl, hr⟩ := (HX.out.below (HB.out.trans (HBr.out.mono HB.out.size))).2.2.2 md hml
      obtain ⟨d, hd⟩ : ∃ d, d = l[md] := ⟨_, rfl⟩
      rw [← hd] at hr
      obtain ⟨x, y, had, mk⟩ := d
      have kr : ∀ w', (∃ u : After wr, w' = u.wd) → w'.rangeAt g (md * 20) [.int .i64 x.st.1, .int .i64 x.st.2, .int .i64 x.seq, .int .i64 x.kind, .int .i64 x.node.1, .int .i64 x.node.2, .bool x.dir, .int .i64 x.par.1, .int .i64 x.par.2, .string (bs x.nm), .string (bs x.mf), .int .i64 y.id.1, .int .i64 y.id.2, .bool y.dir, .int .i64 y.par.1, .int .i64 y.par.2, .string (bs y.nm), .string (bs y.mf), .bool had, .bool mk] := by
        rintro _ ⟨u, rfl⟩
        exact fun j v hv => u.cell (hr.2 j v hv)
      have KR := Lib.hid kr
      have p0 := (HBk.out.below HBr.out HBk.out.lt).cell 0
      have p1 := (HBk.out.below HBr.out HBk.out.lt).cell 1
      simp only [List.getElem?_toArray, List.getElem?_cons_zero, List.getElem?_cons_succ] at p0 p1
      have q0 := fun u : After wr => u.cell p0
      have q1 := fun u : After wr => u.cell p1
      clear p0 p1
      have hmi : (md : Int) < (n : Int) := by omega
      have HD := Lib.hid hd
      have HC := Lib.hid (fun u : After wr => order_st x y had mk s u.wd)
      obtain ⟨cm, hcm⟩ : ∃ cm, cm = cmpS x.st s := ⟨_, rfl⟩
      rw [← hcm] at HC
      have HCm := Lib.hid hcm
      clear hcm
      have HBn := Lib.hid HBr.out.size
      clear hd hr hmd kr
      go_upto_region 5 with (fail)
      clear emd
      refine wp_region_after (by kernel_rfl) (by kernel_rfl) ?_
      go_big_quiet_step (fail)
      go_big_quiet_step (fail)
      go_big_quiet_step (fail)
      go_big_quiet_step (fail)
      go_big_quiet_want
      refine quiet_load_mid 58 _ rfl g (md * 20) rfl _ _ KR.out Try.underlying58 rfl (by kernel_rfl) ?_
      go_frame
      go_big_quiet_on
      have hg' : l[md].op.st = x.st := by rw [← HD.out]
      have HG := Lib.hid hg'
      clear hg'
      by_cases hneg : cm < 0
      · have dneg : decide (cm < 0) = true := decide_eq_true hneg
        repeat (go_big_quiet_step (exact after_call (HC.out _)))
        refine wpQuiet_nil ?_
        rintro _ ⟨u, rfl⟩
        have HN := Lib.hid hneg
        have HU := Lib.hid (HBr.out.trans (u.below.mono HBn.out))
        clear hneg dneg q0 q1 HC KR
        go_wp2_with fail
        exact ⟨⟨md + 1, hi, by omega, hhn, by go_num, rfl, HU.out, fun j hj hlt => HM.out j md hj hml (by omega) (by rw [HG.out, ← HCm.out]; exact HN.out), HHi.out⟩, by simp [intOf]; omega⟩
      · have dneg : decide (cm < 0) = false := decide_eq_false hneg
        repeat (go_big_quiet_step (exact after_call (HC.out _)))
        refine wpQuiet_nil ?_
        rintro _ ⟨u, rfl⟩
        have HN := Lib.hid hneg
        have HU := Lib.hid (HBr.out.trans (u.below.mono HBn.out))
        clear hneg dneg q0 q1 HC KR
        go_wp2_with fail
        exact ⟨⟨lo, md, by omega, by omega, rfl, by go_num, HU.out, HLo.out, fun j hj hle hc => HN.out (by rw [HCm.out, ← HG.out]; exact HM.out md j hml hj hle hc)⟩, by simp [intOf]; omega⟩
    · obtain rfl : lo = hi := by omega
      have hki : ¬ (lo : Int) < (lo : Int) := by omega
      have HLo := Lib.hid hlo
      have HHi := Lib.hid hhi
      have HBr := Lib.hid hbr
      clear hlo hhi hbr
      go_upto_region 8 with (fail)
      clear hki
      refine wp_region_after (by kernel_rfl) (by kernel_rfl) ?_
      rcases Nat.lt_or_ge lo n with hln2 | hge2
      · have hml : lo < l.length := by omega
        have hd1 : decide (lo < n) = true := decide_eq_true (by omega)
        obtain ⟨g, rfl, hr⟩ := (HX.out.below (HB.out.trans (HBr.out.mono HB.out.size))).2.2.2 lo hml
        obtain ⟨d, hd⟩ : ∃ d, d = l[lo] := ⟨_, rfl⟩
        rw [← hd] at hr
        obtain ⟨x, y, had, mk⟩ := d
        have kr : ∀ w', (∃ u : After wr, w' = u.wd) → w'.rangeAt g (lo * 20) [.int .i64 x.st.1, .int .i64 x.st.2, .int .i64 x.seq, .int .i64 x.kind, .int .i64 x.node.1, .int .i64 x.node.2, .bool x.dir, .int .i64 x.par.1, .int .i64 x.par.2, .string (bs x.nm), .string (bs x.mf), .int .i64 y.id.1, .int .i64 y.id.2, .bool y.dir, .int .i64 y.par.1, .int .i64 y.par.2, .string (bs y.nm), .string (bs y.mf), .bool had, .bool mk] := by
          rintro _ ⟨u, rfl⟩
          exact fun j v hv => u.cell (hr.2 j v hv)
        have KR := Lib.hid kr
        have p0 := (HBk.out.below HBr.out HBk.out.lt).cell 0
        have p1 := (HBk.out.below HBr.out HBk.out.lt).cell 1
        simp only [List.getElem?_toArray, List.getElem?_cons_zero, List.getElem?_cons_succ] at p0 p1
        have q0 := fun u : After wr => u.cell p0
        have q1 := fun u : After wr => u.cell p1
        clear p0 p1
        have hmi : (lo : Int) < (n : Int) := by omega
        have HD := Lib.hid hd
        have HC := Lib.hid (fun u : After wr => order_st x y had mk s u.wd)
        obtain ⟨cm, hcm⟩ : ∃ cm, cm = cmpS x.st s := ⟨_, rfl⟩
        rw [← hcm] at HC
        have hg' : l[lo].op.st = x.st := by rw [← HD.out]
        have hans : decide (∃ ha : lo < l.length, cmpS l[lo].op.st s = 0) = (cm == 0) := by
          rw [hcm, ← hg']
          by_cases c0 : cmpS l[lo].op.st s = 0
          · simp [c0, hml]
          · simp [c0]
        have HA := Lib.hid hans
        have HBn := Lib.hid HBr.out.size
        clear hd hr kr hcm hg' hans
        repeat (go_big_quiet_step (fail))
        go_big_quiet_want
        refine quiet_load_mid 58 _ rfl g (lo * 20) rfl _ _ KR.out Try.underlying58 rfl (by kernel_rfl) ?_
        go_frame
        go_big_quiet_on
        repeat (go_big_quiet_step (exact after_call (HC.out _)))
        refine wpQuiet_nil ?_
        rintro _ ⟨u, rfl⟩
        have HU := Lib.hid (HBr.out.trans (u.below.mono HBn.out))
        clear q0 q1 HC KR
        go_wp2_with fail
        go_ret2
        exact ⟨lo, _, by omega, HLo.out, (fun j hj hle hc => absurd (HHi.out j hj hle) (by omega)), HA.out.symm, rfl, HB.out.trans (HU.out.mono HB.out.size)⟩
      · have hd1 : decide (lo < n) = false := decide_eq_false (by omega)
        have hans : decide (∃ ha : lo < l.length, cmpS l[lo].op.st s = 0) = false := by
          apply decide_eq_false
          rintro ⟨h, _⟩
          omega
        have HA := Lib.hid hans
        have HBn := Lib.hid HBr.out.size
        clear hans
        repeat (go_big_quiet_step (fail))
        refine wpQuiet_nil ?_
        rintro _ ⟨u, rfl⟩
        have HU := Lib.hid (HBr.out.trans (u.below.mono HBn.out))
        go_wp2_with fail
        go_ret2
        exact ⟨lo, _, by omega, HLo.out, (fun j hj hle hc => absurd (HHi.out j hj hle) (by omega)), HA.out.symm, rfl, HB.out.trans (HU.out.mono HB.out.size)⟩
end Go.Proofs.Ytaglomhmnoldlaa
