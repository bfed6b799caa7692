/- An act done; a write. -/
import Derived.Test.YticgcpbblefacaaDc
namespace Go.Proofs.Yticgcpbblefacaa
open Go.RowKit
attribute [local go_sem] bs_size bs_getElem bs_list bs_append

theorem zero9 (w : World) : (zeroValue 9).run Try.prog w = .ok (.string ⟨#[]⟩) w := Try.zeroValue9 w
/-- every file is short -/
def Short (n : Nat) (fs : Files) : Prop := ∀ e ∈ fs, e.2.length ≤ n
theorem Short.get {n : Nat} : ∀ {fs : Files} (_ : Short n fs) (k : Bytes), ((get fs k).getD []).length ≤ n
  | [], _, _ => Nat.zero_le _
  | e :: r, h, k => by
    by_cases c : e.1 = k
    · simp only [Go.Proofs.Yticgcpbblefacaa.get, place, if_pos c]; exact h e (by simp)
    · have ih := Short.get (fs := r) (fun x hx => h x (List.mem_cons_of_mem _ hx)) k
      simp only [Go.Proofs.Yticgcpbblefacaa.get, place, if_neg c] at ih ⊢
      simpa [Option.map_map, Function.comp_def] using ih
theorem half_len (t : Bool) (l : Bytes) : (half t l).length ≤ l.length := by unfold half; split <;> simp <;> omega

set_option maxHeartbeats 1000000 in
theorem act_any {p q r b : Nat} {a : Wr} {fs : Files} (t : Bool) (w : World) (hp : Blk w p 9 #[.string (bs a.data)]) (hq : Blk w q 9 #[.string (bs a.name)]) (hr : Blk w r 3 #[.int .i64 (a.at_ : Nat)]) (hb : Fs w b fs)
    (hs : ((get fs a.name).getD []).length ≤ 100000000) (hd : a.data.length ≤ 100000000) (hk : a.at_ ≤ 8192) :
    Calls Try.prog 21 #[.map (some b), .bool t, .pointer (some ⟨p, 0, none⟩), .pointer (some ⟨q, 0, none⟩), .pointer (some ⟨r, 0, none⟩)] w fun e w' => e = .returned (.tuple #[]) ∧ Fs w' b (doneL fs a t) ∧ w.grownBy w' (some b) := by
  have cp := hp.cell 0
  have cq := hq.cell 0
  have cr := hr.cell 0
  simp at cp cq cr
  have hlook : ∀ x : After w, (Instr.lookup 47 (.map (some b)) (.string (bs a.name)) false).run Try.prog x.wd = .ok (.string (bs ((get fs a.name).getD []))) x.wd :=
    fun x => (hb.below x.below).look Try.underlying47 Try.underlying9 zero9 a.name
  have kp : ∀ x : After w, x.wd.cell? ⟨p, 0, none⟩ = some (.string (bs a.data)) := fun x => x.cell cp
  have kq : ∀ x : After w, x.wd.cell? ⟨q, 0, none⟩ = some (.string (bs a.name)) := fun x => x.cell cq
  have kr : ∀ x : After w, x.wd.cell? ⟨r, 0, none⟩ = some (.int .i64 (a.at_ : Nat)) := fun x => x.cell cr
  have hhd : (half t a.data).length ≤ 100000000 := Nat.le_trans (half_len _ _) hd
  obtain ⟨s0, hs0⟩ : ∃ s0, s0 = (get fs a.name).getD [] := ⟨_, rfl⟩
  rw [← hs0] at hlook hs
  obtain ⟨dt, hdt⟩ : ∃ dt, dt = half t a.data := ⟨_, rfl⟩
  rw [← hdt] at hhd
  have HB := Lib.hid hb
  have HS := Lib.hid hs0
  have HD := Lib.hid hdt
  clear hb hs0 hdt hp hq hr
  cases t
  case' false =>
    have e1 : dt = a.data := HD.out
    rw [← e1] at cp kp
    clear e1
    go_enter Try.func21, Try.ntmps21
    go_wp2_with fail
  case' true =>
    obtain ⟨m, hm⟩ : ∃ m, m = a.data.length / 2 := ⟨_, rfl⟩
    have e1 : (bs a.data).extract 0 m = bs dt := by rw [HD.out, bs_extract, hm]; simp [half]
    have e2 : ((a.data.length : Nat) : Int) / 2 = ((m : Nat) : Int) := by omega
    have e3 : (m : Int) ≤ a.data.length := by omega
    have e4 : wrap64 (m : Int) = m := by unfold wrap64; omega
    clear hm
    go_enter Try.func21, Try.ntmps21
    go_wp2_with fail
  all_goals
    refine region_tail_after 8 (by kernel_rfl) (by kernel_rfl) ?_
    simp only [List.take_succ_cons, List.take_zero, List.drop_succ_cons, List.drop_zero]
    repeat (go_big_quiet_step ((go_at_call 22; exact after_call (laid_any s0 dt a.at_ _ hs hhd hk))))
    refine wpQuiet_nil ?_
    rintro _ ⟨x, rfl⟩
    obtain ⟨w2, hr2, hf2, hg2, _⟩ := (HB.out.below x.below).store Try.underlying47 Try.underlying9 a.name (laidL s0 a.at_ dt)
    have HF := Lib.hid hf2
    have HG := Lib.hid hg2
    clear hf2 hg2
    go_wp2_with fail
    go_end0
    refine ⟨rfl, ?_, gb_trans (gb_of_below x.below _) HG.out⟩
    have := HF.out
    rw [HS.out, HD.out] at this
    exact this
end Go.Proofs.Yticgcpbblefacaa
