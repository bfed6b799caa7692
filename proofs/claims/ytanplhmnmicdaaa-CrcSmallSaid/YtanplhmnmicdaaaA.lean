/- sync.Once at the table: the lock, the two deferred calls, the function that fills the table. -/
import Derived.Test.YtanplhmnmicdaaaRows
import Derived.Test.YtanplhmnmicdaaaWords
import Derived.Test.YtanplhmnmicdaaaPlain
import Derived.Defers
import Derived.Laws.Pointers
import Derived.Laws.LoneSync
import Derived.RegionTactic
import Derived.RegionCalls
import Derived.ChangeAlike
namespace Go.Proofs.Ytanplhmnmicdaaa
open Go.RowKit

theorem disable (w : World) : (callFunc 26 #[]).run Try.prog w = .ok (.value (.tuple #[])) w := run_call_mark0 Try.func26 (by kernel_rfl) (by kernel_rfl) (by kernel_rfl) .disable (by kernel_rfl) w
theorem enable (w : World) : (callFunc 28 #[]).run Try.prog w = .ok (.value (.tuple #[])) w := run_call_mark0 Try.func28 (by kernel_rfl) (by kernel_rfl) (by kernel_rfl) .enable (by kernel_rfl) w
theorem acquire (a : Addr) (w : World) : (callFunc 29 #[.pointer (some a)]).run Try.prog w = .ok (.value (.tuple #[])) w := run_call_marked Try.func29 (by kernel_rfl) (by kernel_rfl) (by kernel_rfl) .acquire (by kernel_rfl) a w
theorem releaseMerge (a : Addr) (w : World) : (callFunc 31 #[.pointer (some a)]).run Try.prog w = .ok (.value (.tuple #[])) w := run_call_marked Try.func31 (by kernel_rfl) (by kernel_rfl) (by kernel_rfl) .releaseMerge (by kernel_rfl) a w

theorem store_deferred (a : Addr) (x : Value) (u : FrameMode) (w : World) (hc : w.cell? a = some x) (hz : w.frozen? a = false) :
    CallsD Try.prog 21 #[.pointer (some a), .bool true] u w fun e u' w' => u' = u ∧ (e = .returned (.tuple #[]) ∧ w' = w.drew.setCell a (.int .u32 1)) := by
  have hc' : w.drew.cell? a = some x := by go_simp
  have hz' : w.drew.frozen? a = false := by go_simp
  have hst := run_call_store (P := Try.prog) Try.func24 (by kernel_rfl) (by kernel_rfl) (by kernel_rfl) (by kernel_rfl) (k := .u32) (y := 1) hc' hz'
  go_enter_d Try.func21, Try.ntmps21
  go_wp2
  go_region_calls
  all_goals (go_end0; exact ⟨rfl, rfl⟩)

theorem unlock_deferred (a : Addr) (u : FrameMode) (w : World) (hc : w.cell? a = some (.int .i32 1)) (hz : w.frozen? a = false) :
    CallsD Try.prog 20 #[.pointer (some a)] u w fun e u' w' => u' = u ∧ (e = .returned (.tuple #[]) ∧ w' = w.setCell a (.int .i32 0)) := by
  have hd := disable
  have he := enable
  have hr := releaseMerge
  have hadd := run_call_add (P := Try.prog) Try.func32 (by kernel_rfl) (by kernel_rfl) (by kernel_rfl) .i32 (by kernel_rfl) (y := -1) (s := 0) hc hz (by simp [go_sem]; rfl)
  have hcv := run_convert_to_unsafe (P := Try.prog) (src := 57) (dst := 61) Try.underlying57 Try.underlying61 (by kernel_rfl) hc
  go_enter_d Try.func20, Try.ntmps20
  go_wp2
  go_end0
  go_wp2
  go_end0
  exact ⟨rfl, rfl⟩

theorem lock_free (a : Addr) (w : World) (hc : w.cell? a = some (.int .i32 0)) (hz : w.frozen? a = false) :
    Calls Try.prog 19 #[.pointer (some a)] w fun e w' => e = .returned (.tuple #[]) ∧ w' = w.setCell a (.int .i32 1) := by
  have hd := disable
  have he := enable
  have ha := acquire
  have hcas := run_call_cas_hit (P := Try.prog) Try.func27 (by kernel_rfl) (by kernel_rfl) (by kernel_rfl) .i32 (by kernel_rfl) (y := 1) hc hz
  have hc' : (w.setCell a (.int .i32 1)).cell? a = some (.int .i32 1) := World.cell?_setCell_same w a _ hc
  have hcv := run_convert_to_unsafe (P := Try.prog) (src := 57) (dst := 61) Try.underlying57 Try.underlying61 (by kernel_rfl) hc'
  go_enter Try.func19, Try.ntmps19
  go_wp2
  first | go_end0 | (simp only [Exit.inBlock, Exit.then]; refine bodyPost_ret (results_none rfl _ _ _) rfl ?_) | refine bodyPost_ret (results_none rfl _ _ _) rfl ?_
  go_wp2
  go_end0
  exact ⟨rfl, rfl⟩

/-! ### the table's block -/
def cellT (d s : Int) (k i : Nat) : Value :=
  if i = 0 then .int .u32 d else if i = 1 then .int .i32 s else if i = 2 then .int .u32 0 else .int .u32 (if i < k + 3 then ((step8 (i - 3) : Nat) : Int) else 0)
/-- done, the lock's state, and the steps of the first k bytes -/
def Tb (d s : Int) (k : Nat) : Array Value := Array.ofFn (n := 259) fun i => cellT d s k i
theorem tb_at (d s : Int) (k i : Nat) (h : i < 259) : (Tb d s k)[i]? = some (cellT d s k i) := by simp [Tb, h]
theorem tb_set {d s d' s' : Int} {k k' i : Nat} {v : Value} (h : i < 259) (hv : v = cellT d' s' k' i) (ho : ∀ j, j < 259 → j ≠ i → cellT d s k j = cellT d' s' k' j) : (Tb d s k).setIfInBounds i v = Tb d' s' k' := by
  have hsz : ∀ d s k, (Tb d s k).size = 259 := fun d s k => by simp [Tb]
  apply Array.ext_getElem?
  intro j
  rw [Array.getElem?_setIfInBounds]
  by_cases e : i = j
  · subst e
    rw [if_pos rfl, if_pos (by rw [hsz]; exact h), tb_at _ _ _ _ h, hv]
  · rw [if_neg e]
    rcases Nat.lt_or_ge j 259 with hj | hj
    · rw [tb_at _ _ _ _ hj, tb_at _ _ _ _ hj, ho j hj (fun h => e h.symm)]
    · rw [Array.getElem?_eq_none (by rw [hsz]; exact hj), Array.getElem?_eq_none (by rw [hsz]; exact hj)]
theorem tb_done (d s d' : Int) (k : Nat) : (Tb d s k).setIfInBounds 0 (.int .u32 d') = Tb d' s k := tb_set (by decide) (by simp [cellT]) (fun j _ hn => by simp [cellT, hn])
theorem tb_state (d s s' : Int) (k : Nat) : (Tb d s k).setIfInBounds 1 (.int .i32 s') = Tb d s' k := tb_set (by decide) (by simp [cellT]) (fun j _ hn => by simp [cellT, hn])
theorem tb_step (d s : Int) (k : Nat) (h : k < 256) : (Tb d s k).setIfInBounds (3 + k) (.int .u32 ((step8 k : Nat) : Int)) = Tb d s (k + 1) :=
  tb_set (by omega) (by simp [cellT, show ¬ 3 + k = 0 from by omega, show ¬ 3 + k = 1 from by omega, show ¬ 3 + k = 2 from by omega, show 3 + k < k + 1 + 3 from by omega, show 3 + k - 3 = k from by omega]) (fun j _ hn => by
    have e : (j < k + 3) = (j < k + 1 + 3) := by simp; omega
    unfold cellT
    simp only [e])
def Tab (w : World) (b : Nat) (d s : Int) (k : Nat) : Prop := Blk w b 45 (Tb d s k)
section
variable {w w' : World} {b : Nat} {d s : Int} {k : Nat}
theorem Tab.c0 (h : Tab w b d s k) : w.cell? ⟨b, 0, none⟩ = some (.int .u32 d) := by rw [Blk.cell h, tb_at _ _ _ _ (by decide)]; rfl
theorem Tab.c1 (h : Tab w b d s k) : w.cell? ⟨b, 1, none⟩ = some (.int .i32 s) := by rw [Blk.cell h, tb_at _ _ _ _ (by decide)]; rfl
theorem Tab.step (h : Tab w b d s 256) {i : Nat} (hi : i < 256) : w.cell? ⟨b, 3 + i, none⟩ = some (.int .u32 ((step8 i : Nat) : Int)) := by
  rw [Blk.cell h, tb_at _ _ _ _ (by omega)]
  simp [cellT, show ¬ 3 + i = 0 from by omega, show ¬ 3 + i = 1 from by omega, show ¬ 3 + i = 2 from by omega, show 3 + i < 256 + 3 from by omega, show 3 + i - 3 = i from by omega]
theorem Tab.any (h : Tab w b d s k) {i : Nat} (hi : i < 259) : ∃ v, w.cell? ⟨b, i, none⟩ = some v := ⟨_, (Blk.cell h i).trans (tb_at _ _ _ _ hi)⟩
theorem Tab.lt (h : Tab w b d s k) : b < w.heap.size := Blk.lt h
theorem Tab.fr (h : Tab w b d s k) (i : Nat) : w.frozen? ⟨b, i, none⟩ = false := Blk.frozen h i
theorem Tab.set0 (h : Tab w b d s k) (x : Int) : Tab (w.setCell ⟨b, 0, none⟩ (.int .u32 x)) b x s k := by have := Blk.set_ h 0 (.int .u32 x); rwa [tb_done] at this
theorem Tab.set1 (h : Tab w b d s k) (x : Int) : Tab (w.setCell ⟨b, 1, none⟩ (.int .i32 x)) b d x k := by have := Blk.set_ h 1 (.int .i32 x); rwa [tb_state] at this
theorem Tab.setS (h : Tab w b d s k) (hk : k < 256) : Tab (w.setCell ⟨b, 3 + k, none⟩ (.int .u32 ((step8 k : Nat) : Int))) b d s (k + 1) := by have := Blk.set_ h (3 + k) (.int .u32 ((step8 k : Nat) : Int)); rwa [tb_step _ _ _ hk] at this
end

set_option maxRecDepth 100000 in
set_option maxHeartbeats 1000000 in
/-- the function that fills the table -/
theorem fill_any (p b : Nat) (hpb : p ≠ b) (w : World) (hT : Tab w b 0 1 0) (hp : w.cell? ⟨p, 0, none⟩ = some (.pointer (some ⟨b, 0, none⟩))) :
    Calls Try.prog 15 #[.pointer (some ⟨p, 0, none⟩)] w fun e w' => e = .returned (.tuple #[]) ∧ Tab w' b 0 1 256 ∧ w.grownBy w' (some b) := by
  have hpl := cell_lt hp
  go_enter Try.func15, Try.ntmps15
  go_wp2_with fail
  go_loopw [3] (fun i wr => ∃ k : Nat, k ≤ 256 ∧ i = .int .i64 k ∧ Tab wr b 0 1 k ∧ w.grownBy wr (some b)) (fun i _ => 256 - (intOf i).toNat)
  case atStart => exact ⟨0, by omega, rfl, hT, gb_refl _ _⟩
  case round =>
    obtain ⟨k, hk, rfl, hTk, hg⟩ := hrel
    rcases Nat.lt_or_ge k 256 with hlt | hge
    · have hp' : wr.cell? ⟨p, 0, none⟩ = some (.pointer (some ⟨b, 0, none⟩)) := (hg.cell hp (by simpa using hpb))
      obtain ⟨v0, hv0⟩ := hTk.any (i := 3 + k) (by omega)
      have hfr := hTk.fr (3 + k)
      have hTS := Lib.hid hTk
      have hG := Lib.hid hg
      obtain ⟨wo, hwo⟩ : ∃ wo, wo = wr := ⟨_, rfl⟩
      rw [← hwo] at hp' hv0 hfr hTS hG ⊢
      clear hTk hg hwo
      go_wp2_with fail
      go_loopw [2, 8] (fun x j wr => ∃ m : Nat, m ≤ 8 ∧ j = .int .i64 m ∧ x = .int .u32 ((ticks m k : Nat) : Int) ∧ wr = wo) (fun _ j _ => 8 - (intOf j).toNat)
      case atStart => exact ⟨0, by omega, rfl, rfl, rfl⟩
      case round =>
        obtain ⟨m, hm, rfl, rfl, rfl⟩ := hrel
        have hX := ticks_lt (x := k) (by omega) m
        rcases Nat.lt_or_ge m 8 with hml | hmg
        · have hcode := Lib.hid (tick_code hX)
          have hnext : tick (ticks m k) = ticks (m + 1) k := rfl
          generalize ticks m k = X at *
          have HN := Lib.hid hnext
          clear hnext
          go_wp2_with fail
          go_roundw
          case rel => exact ⟨m + 1, by omega, by go_num, by rw [hcode.out, HN.out], trivial⟩
          case measure => simp [intOf]; omega
        · obtain rfl : m = 8 := by omega
          have HX := Lib.hid hX
          clear hX
          go_wp2_with fail
          exact ⟨⟨k + 1, by omega, by go_num, hTS.out.setS hlt, gb_setCell hG.out (Or.inl rfl) _⟩, by simp [intOf]; omega⟩
    · obtain rfl : k = 256 := by omega
      go_wp2_with fail
      go_end0
      exact ⟨rfl, hTk, hg⟩
end Go.Proofs.Ytanplhmnmicdaaa
