/- grown: a tree with one node more. -/
import Derived.Test.YtaglomhmnoldlaaQ
import Derived.Test.YtaglomhmnoldlaaTa
namespace Go.Proofs.Ytaglomhmnoldlaa
open Go.RowKit
attribute [local go_sem] bs_size bs_getElem bs_list bs_append

theorem ncs_take (xs : List Nd) (k : Nat) : ncs (xs.take k) = (ncs xs).take (k * 7) := by
  rcases Nat.lt_or_ge k xs.length with h | h
  · have e : ncs xs = ncs (xs.take k) ++ ncs (xs.drop k) := by rw [← ncs_append, List.take_append_drop]
    rw [e, List.take_left' (by rw [ncs_len, List.length_take]; congr 1; omega)]
  · rw [List.take_of_length_le h, List.take_of_length_le (by rw [ncs_len]; omega)]
theorem ncs_drop (xs : List Nd) (k : Nat) : ncs (xs.drop k) = (ncs xs).drop (k * 7) := by
  rcases Nat.lt_or_ge k xs.length with h | h
  · have e : ncs xs = ncs (xs.take k) ++ ncs (xs.drop k) := by rw [← ncs_append, List.take_append_drop]
    rw [e, List.drop_left' (by rw [ncs_len, List.length_take]; congr 1; omega)]
  · rw [List.drop_eq_nil_of_le h, List.drop_eq_nil_of_le (by rw [ncs_len]; omega)]; rfl
theorem ncs_insert (xs : List Nd) (y : Nd) (k : Nat) : ncs (xs.take k ++ y :: xs.drop k) = (ncs xs).take (k * 7) ++ (nc y ++ (ncs xs).drop (k * 7)) := by
  rw [ncs_append, ← ncs_take]
  congr 1
  rw [← ncs_drop]
  simp [ncs]
theorem own_inserted {w : World} {B n k : Nat} {v : Value} {xs : List Nd} {y : Nd} (hn : xs.length = n) (hk : k ≤ n) (h : OwnC w B 7 v (n + 1) ((ncs xs).take (k * 7) ++ (nc y ++ (ncs xs).drop (k * 7)))) : Own w B v (xs.take k ++ y :: xs.drop k) := by
  unfold Own
  rw [ncs_insert]
  have : (xs.take k ++ y :: xs.drop k).length = n + 1 := by simp; omega
  rw [this]; exact h
theorem short_insert {xs : List Nd} {y : Nd} (h : Short xs) (hy : y.nm.length ≤ 9223372036854775807 ∧ y.mf.length ≤ 9223372036854775807) (k : Nat) : Short (xs.take k ++ y :: xs.drop k) := by
  intro x hx
  rcases List.mem_append.1 hx with hx | hx
  · exact h x (List.mem_of_mem_take hx)
  · rcases List.mem_cons.1 hx with rfl | hx
    · exact hy
    · exact h x (List.mem_of_mem_drop hx)

/-- behind Clone: a list of one's own in w', B being the size of old -/
structure Cloned (B : Nat) (w w' : World) (S : Nat) (v : Value) (xs : List Nd) : Prop where
  own0 : Own w' S v xs
  below : Below B w w'
  le : B ≤ w'.heap.size
  leS : B ≤ S
theorem Cloned.own {B S : Nat} {w w' : World} {v : Value} {xs : List Nd} (h : Cloned B w w' S v xs) : Own w' B v xs := h.own0.mono h.leS
theorem Cloned.ne_new {B S : Nat} {w w' : World} {v : Value} {xs : List Nd} (h : Cloned B w w' S v xs) : v.ownBlock ≠ some w'.heap.size := fun e => by
  have := (h.own0.ge _ e).2; omega
theorem Cloned.ne_at {B S : Nat} {w w' : World} {v : Value} {xs : List Nd} (h : Cloned B w w' S v xs) {q : Nat} (hq : q < S) : v.ownBlock ≠ some q := fun e => by
  have := (h.own0.ge _ e).1; omega
theorem Cloned.fin {B S : Nat} {w w' w4 : World} {v : Value} {xs : List Nd} (h : Cloned B w w' S v xs) (hg : w'.grownBy w4 v.ownBlock) : Below B w w4 := gb_own h.below h.leS h.le h.own0 hg
theorem Cloned.fin_alloc {B S : Nat} {w w' w4 : World} {v : Value} {xs : List Nd} {o : Obj} (h : Cloned B w w' S v xs) (hg : (w'.alloc o).grownBy w4 v.ownBlock) : Below B w w4 :=
  gb_own (h.below.alloc h.le o) h.leS (Nat.le_trans h.le (by simp)) (h.own0.alloc o) hg

set_option maxRecDepth 100000 in
set_option maxHeartbeats 3200000 in
theorem grown_any (y : Nd) (A : Option Addr) (n c : Nat) (xs : List Nd) (w : World) (hx : Nds w A n c xs) (hm : n ≤ 100000) :
    Calls Try.prog 48 #[.slice A n c, nv y] w fun e w' => ∃ v, e = .returned v ∧ Own w' w.heap.size v (growN xs y) ∧ Below w.heap.size w w' := by
  have hn := hx.len
  have hmx := hx.max
  have hle := hx.le
  have hb1 : Below w.heap.size w (w.alloc (.cells (nc y).toArray 38)) := (Below.refl _ w).alloc (Nat.le_refl _) _
  have hB := Blk.new w 38 (nc y).toArray
  have hx1 := hx.below hb1
  obtain ⟨w1, hw1⟩ : ∃ w1, w1 = w.alloc (.cells (nc y).toArray 38) := ⟨_, rfl⟩
  rw [← hw1] at hB hb1 hx1
  have HI := Lib.hid (index_less w.heap.size y A n c xs w1 hx1 hB)
  have HW := Lib.hid (show w1 = w.alloc (.cells #[.int .i64 y.id.1, .int .i64 y.id.2, .bool y.dir, .int .i64 y.par.1, .int .i64 y.par.2, .string (bs y.nm), .string (bs y.mf)] 38) from hw1)
  have HX := Lib.hid hx1
  have HB := Lib.hid hb1
  have HBk := Lib.hid hB
  obtain ⟨B, hBe⟩ : ∃ B, B = w.heap.size := ⟨_, rfl⟩
  rw [← hBe] at HI HB HBk
  have HBe := Lib.hid hBe
  have hsz : B ≤ w1.heap.size := by rw [hBe]; exact hb1.size
  have HSz := Lib.hid hsz
  clear hw1 hx1 hb1 hB hx hsz
  rw [← hBe]
  clear hBe
  unfold nv
  unfold growN
  rcases firstI_cases (fun z => lessS y.id z.id) xs with ⟨k, hk, hfk, hp⟩ | ⟨hfk, hall⟩
  all_goals (have hat := atN_first xs y.id; rw [hfk] at HI hat)
  · have hd0 : decide ((k : Int) < 0) = false := decide_eq_false (by omega)
    have hke : atN xs y.id = k := by rw [if_neg (by omega)] at hat; omega
    rw [hke]
    have hkn : k ≤ n := by omega
    clear hat hke hfk hp hk
    go_enter Try.func48, Try.ntmps48
    go_wp2_with fail
    rw [← HW.out, ← HBe.out]
    refine HI.out.mono ?_
    rintro e w2 ⟨rfl, hb2⟩
    have HB2 := Lib.hid (HB.out.trans (hb2.mono HSz.out))
    have HQ := Lib.hid (Blk.below HBk.out hb2 (Blk.lt HBk.out))
    have HX2 := Lib.hid (HX.out.below hb2)
    have hsz2 := Nat.le_trans HSz.out hb2.size
    have HSz2 := Lib.hid hsz2
    clear hb2 hsz2
    go_wp2_with fail
    have HL := Lib.hid (show xs.length ≤ 1000000 by omega)
    have HN := Lib.hid (show n ≤ 1000000 by omega)
    have HKL := Lib.hid (show k ≤ xs.length by omega)
    clear hm hn hmx hle hkn
    go_region_held3 (fun w' => w'.cell? ⟨B, 0, none⟩ = some (.int .i64 y.id.1) ∧ w'.cell? ⟨B, 1, none⟩ = some (.int .i64 y.id.2) ∧ w'.cell? ⟨B, 2, none⟩ = some (.bool y.dir) ∧ w'.cell? ⟨B, 3, none⟩ = some (.int .i64 y.par.1) ∧ w'.cell? ⟨B, 4, none⟩ = some (.int .i64 y.par.2) ∧ w'.cell? ⟨B, 5, none⟩ = some (.string (bs y.nm)) ∧ w'.cell? ⟨B, 6, none⟩ = some (.string (bs y.mf)))
      (with_reducible first | exact blk7 HQ4.out | exact blk7 HQ3.out | exact blk7 (Blk.alloc HQ3.out _) | exact blk7 (Blk.drew HQ.out) | exact blk7 (Blk.drew (Blk.alloc HQ.out _)) | exact blk7 (Blk.alloc (Blk.drew HQ.out) _) | exact blk7 (Blk.alloc HQ.out _) | exact blk7 HQ.out)
      (first
        | (go_at_call 50; refine (clone_any A n c xs _ (HX2.out.below (Below.refl _ _).drew) HN.out).mono ?_; rintro e w3 ⟨v, rfl, hO3, hb3⟩; obtain ⟨A3, c3, rfl⟩ := OwnC.isSlice hO3; have HQ3 := Lib.hid (Blk.below (Blk.drew HQ.out) hb3 (Blk.lt HQ.out)); have HC := Lib.hid (Cloned.mk (B := B) (w := w) hO3 (HB2.out.drew.trans (hb3.mono HSz2.out)) (Nat.le_trans HSz2.out hb3.size) HSz2.out); have HLt := Lib.hid (Blk.lt HQ.out); clear hO3 hb3)
        | (go_at_call 50; refine (clone_any A n c xs _ (HX2.out.below ((Below.refl _ _).alloc (Nat.le_refl _) _).drew) HN.out).mono ?_; rintro e w3 ⟨v, rfl, hO3, hb3⟩; obtain ⟨A3, c3, rfl⟩ := OwnC.isSlice hO3; have HQ3 := Lib.hid (Blk.below (Blk.drew (Blk.alloc HQ.out _)) hb3 (Nat.lt_of_lt_of_le (Blk.lt HQ.out) (by simp))); have HC := Lib.hid (Cloned.mk (B := B) (w := w) hO3 ((HB2.out.alloc HSz2.out _).drew.trans (hb3.mono (Nat.le_trans HSz2.out (by simp)))) (Nat.le_trans HSz2.out (Nat.le_trans (by simp) hb3.size)) (Nat.le_trans HSz2.out (by simp))); have HV := Lib.hid (Blk.below (Blk.drew (Blk.new w2 38 (nc y).toArray)) hb3 (by simp)); have HLt := Lib.hid (Nat.lt_of_lt_of_le (Blk.lt HQ.out) (by simp : w2.heap.size ≤ (w2.alloc (.cells (nc y).toArray 38)).drew.heap.size)); clear hO3 hb3)
        | (go_at_call 66; refine (insert45_any B _ xs.length k (ncs xs) (nc y) _ 1 _ HC.out.own HL.out HKL.out rfl (ncs_one xs) (nc_one y) HV.out (HC.out.ne_at (by simp)) HC.out.le).mono ?_; rintro e w4 ⟨v4, rfl, hO4, hg4, _⟩; have HQ4 := Lib.hid (Blk.grown HQ3.out hg4 (fun e => HC.out.ne_at HLt.out e.symm)); have HF := Lib.hid (And.intro (own_inserted rfl HKL.out hO4) (HC.out.fin hg4)); clear hO4 hg4)
        | (go_at_call 66; refine (insert45_any B _ xs.length k (ncs xs) (nc y) _ 1 _ (HC.out.own.alloc _) HL.out HKL.out rfl (ncs_one xs) (nc_one y) (Blk.new _ 38 (nc y).toArray) HC.out.ne_new (Nat.le_trans HC.out.le (by simp))).mono ?_; rintro e w4 ⟨v4, rfl, hO4, hg4, _⟩; have HQ4 := Lib.hid (Blk.grown (Blk.alloc HQ3.out _) hg4 (fun e => HC.out.ne_at HLt.out e.symm)); have HF := Lib.hid (And.intro (own_inserted rfl HKL.out hO4) (HC.out.fin_alloc hg4)); clear hO4 hg4))
    all_goals (go_wp2_with fail; go_ret; exact ⟨_, rfl, HF.out⟩)
  · have hd0 : decide ((-1 : Int) < 0) = true := by decide
    have hke : atN xs y.id = n := by rw [if_pos (by omega)] at hat; omega
    rw [hke]
    clear hat hke hfk hall
    go_enter Try.func48, Try.ntmps48
    go_wp2_with fail
    rw [← HW.out, ← HBe.out]
    refine HI.out.mono ?_
    rintro e w2 ⟨rfl, hb2⟩
    have HB2 := Lib.hid (HB.out.trans (hb2.mono HSz.out))
    have HQ := Lib.hid (Blk.below HBk.out hb2 (Blk.lt HBk.out))
    have HX2 := Lib.hid (HX.out.below hb2)
    have hsz2 := Nat.le_trans HSz.out hb2.size
    have HSz2 := Lib.hid hsz2
    clear hb2 hsz2
    go_wp2_with fail
    have HL := Lib.hid (show xs.length ≤ 1000000 by omega)
    have HN := Lib.hid (show n ≤ 1000000 by omega)
    have HKL := Lib.hid (show n ≤ xs.length by omega)
    clear hm hn hmx hle
    go_region_held3 (fun w' => w'.cell? ⟨B, 0, none⟩ = some (.int .i64 y.id.1) ∧ w'.cell? ⟨B, 1, none⟩ = some (.int .i64 y.id.2) ∧ w'.cell? ⟨B, 2, none⟩ = some (.bool y.dir) ∧ w'.cell? ⟨B, 3, none⟩ = some (.int .i64 y.par.1) ∧ w'.cell? ⟨B, 4, none⟩ = some (.int .i64 y.par.2) ∧ w'.cell? ⟨B, 5, none⟩ = some (.string (bs y.nm)) ∧ w'.cell? ⟨B, 6, none⟩ = some (.string (bs y.mf)))
      (with_reducible first | exact blk7 HQ4.out | exact blk7 HQ3.out | exact blk7 (Blk.alloc HQ3.out _) | exact blk7 (Blk.drew HQ.out) | exact blk7 (Blk.drew (Blk.alloc HQ.out _)) | exact blk7 (Blk.alloc (Blk.drew HQ.out) _) | exact blk7 (Blk.alloc HQ.out _) | exact blk7 HQ.out)
      (first
        | (go_at_call 50; refine (clone_any A n c xs _ (HX2.out.below (Below.refl _ _).drew) HN.out).mono ?_; rintro e w3 ⟨v, rfl, hO3, hb3⟩; obtain ⟨A3, c3, rfl⟩ := OwnC.isSlice hO3; have HQ3 := Lib.hid (Blk.below (Blk.drew HQ.out) hb3 (Blk.lt HQ.out)); have HC := Lib.hid (Cloned.mk (B := B) (w := w) hO3 (HB2.out.drew.trans (hb3.mono HSz2.out)) (Nat.le_trans HSz2.out hb3.size) HSz2.out); have HLt := Lib.hid (Blk.lt HQ.out); clear hO3 hb3)
        | (go_at_call 50; refine (clone_any A n c xs _ (HX2.out.below ((Below.refl _ _).alloc (Nat.le_refl _) _).drew) HN.out).mono ?_; rintro e w3 ⟨v, rfl, hO3, hb3⟩; obtain ⟨A3, c3, rfl⟩ := OwnC.isSlice hO3; have HQ3 := Lib.hid (Blk.below (Blk.drew (Blk.alloc HQ.out _)) hb3 (Nat.lt_of_lt_of_le (Blk.lt HQ.out) (by simp))); have HC := Lib.hid (Cloned.mk (B := B) (w := w) hO3 ((HB2.out.alloc HSz2.out _).drew.trans (hb3.mono (Nat.le_trans HSz2.out (by simp)))) (Nat.le_trans HSz2.out (Nat.le_trans (by simp) hb3.size)) (Nat.le_trans HSz2.out (by simp))); have HV := Lib.hid (Blk.below (Blk.drew (Blk.new w2 38 (nc y).toArray)) hb3 (by simp)); have HLt := Lib.hid (Nat.lt_of_lt_of_le (Blk.lt HQ.out) (by simp : w2.heap.size ≤ (w2.alloc (.cells (nc y).toArray 38)).drew.heap.size)); clear hO3 hb3)
        | (go_at_call 66; refine (insert45_any B _ xs.length n (ncs xs) (nc y) _ 1 _ HC.out.own HL.out HKL.out rfl (ncs_one xs) (nc_one y) HV.out (HC.out.ne_at (by simp)) HC.out.le).mono ?_; rintro e w4 ⟨v4, rfl, hO4, hg4, _⟩; have HQ4 := Lib.hid (Blk.grown HQ3.out hg4 (fun e => HC.out.ne_at HLt.out e.symm)); have HF := Lib.hid (And.intro (own_inserted rfl HKL.out hO4) (HC.out.fin hg4)); clear hO4 hg4)
        | (go_at_call 66; refine (insert45_any B _ xs.length n (ncs xs) (nc y) _ 1 _ (HC.out.own.alloc _) HL.out HKL.out rfl (ncs_one xs) (nc_one y) (Blk.new _ 38 (nc y).toArray) HC.out.ne_new (Nat.le_trans HC.out.le (by simp))).mono ?_; rintro e w4 ⟨v4, rfl, hO4, hg4, _⟩; have HQ4 := Lib.hid (Blk.grown (Blk.alloc HQ3.out _) hg4 (fun e => HC.out.ne_at HLt.out e.symm)); have HF := Lib.hid (And.intro (own_inserted rfl HKL.out hO4) (HC.out.fin_alloc hg4)); clear hO4 hg4))
    all_goals (go_wp2_with fail; go_ret; exact ⟨_, rfl, HF.out⟩)
end Go.Proofs.Ytaglomhmnoldlaa
