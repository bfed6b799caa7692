/- Counts of packets: the map that the law keeps, and the plain law of what was sent. -/
import Derived.Test.YtnefjmgpbbgifaaMaps
import Derived.Test.YtnefjmgpbbgifaaS2
namespace Go.Proofs.Ytnefjmgpbbgifaa
open Go.RowKit
attribute [local go_sem] bs_size bs_getElem bs_list bs_append

theorem bits_pk (p : Pk) : Instr.sameBits 10000 (pv p) (pv p) = true := by
  simp [Instr.sameBits, pv]
  rw [beq_toListBytes]; exact beq_self_eq_true _
theorem check_pk (e : Bool) (x : Pk) (n : Nat) (w : World) : (Instr.checkKey e (n + 2) 30 (pv x)).run Try.prog w = .ok () w := by
  unfold pv
  simp [go_sem, Instr.checkKey, run_underlying Try.underlying30, run_underlying Try.underlying3]
theorem eq_pk (x y : Pk) (w : World) : (Op.equalIn 10000 30 (pv x) (pv y)).run Try.prog w = .ok (decide (x = y)) w := by
  unfold pv
  cases x with | mk f t d => cases y with | mk f' t' d' =>
  by_cases h1 : f = f' <;> by_cases h2 : t = t' <;> by_cases h3 : d = d' <;> simp [go_sem, h1, h2, h3]
theorem mapPk : MapTy Try.prog pv 47 30 3 (.int .i64 0) where
  map_ := by kernel_rfl
  zero := fun w => by simp [go_sem]
  eq := fun x y w => by
    exact eq_pk x y w
  check := fun e x w => check_pk e x 9998 w
  wide := ⟨_, Try.underlying30, fun a b => rfl⟩
  bits := bits_pk

/-- the map as counts -/
def Sm (w : World) (M : Nat) (g : Pk → Int) : Prop := ∃ f, MapF pv w M f ∧ ∀ p, (f p).getD (.int .i64 0) = .int .i64 (g p)
theorem Sm.new (w : World) : Sm (w.alloc (.map #[] 0)) w.heap.size (fun _ => 0) := ⟨_, MapF.new w, fun _ => rfl⟩
theorem Sm.heap {w w' : World} {M : Nat} {g : Pk → Int} (h : Sm w M g) (hb : w'.heap[M]? = w.heap[M]?) : Sm w' M g := by
  obtain ⟨f, h1, h2⟩ := h
  exact ⟨f, h1.heap hb, h2⟩
theorem Sm.lt {w : World} {M : Nat} {g : Pk → Int} (h : Sm w M g) : M < w.heap.size := by
  obtain ⟨f, h1, h2⟩ := h
  exact h1.lt
theorem Sm.look {w : World} {M : Nat} {g : Pk → Int} (h : Sm w M g) (p : Pk) : (Instr.lookup 47 (.map (some M)) (pv p) false).run Try.prog w = .ok (.int .i64 (g p)) w := by
  obtain ⟨f, h1, h2⟩ := h
  rw [h1.look mapPk p, h2]
def upd (g : Pk → Int) (p : Pk) (n : Int) : Pk → Int := fun x => if x = p then n else g x
theorem Sm.entry {w : World} {M : Nat} {g : Pk → Int} (h : Sm w M g) (p : Pk) (n : Int) :
    ∃ w1 st w2, (Instr.mapEntry 47 (.map (some M)) (pv p)).run Try.prog w = .ok (.tuple #[.int .i64 (g p), .int .i64 st]) w1 ∧ Sm w1 M g ∧ w.grownBy w1 (some M) ∧ w1.heap.size = w.heap.size ∧
      (Instr.entryStore 47 (.map (some M)) (.int .i64 st) (.int .i64 n)).run Try.prog w1 = .ok () w2 ∧ Sm w2 M (upd g p n) ∧ w.grownBy w2 (some M) ∧ w2.heap.size = w.heap.size := by
  obtain ⟨f, h1, h2⟩ := h
  obtain ⟨w1, st, e1, e2, e3, e4, e5⟩ := h1.entry mapPk p
  obtain ⟨w2, f1, f2, f3, f4⟩ := e5 (.int .i64 n)
  refine ⟨w1, st, w2, by rw [e1, h2], ⟨_, e2, fun x => ?_⟩, e3, e4, f1, ⟨_, f2, fun x => ?_⟩, f3, f4⟩
  · by_cases c : x = p
    · subst c; simp only [if_true]; exact h2 x
    · simp only [if_neg c]; exact h2 x
  · simp only [upd]
    by_cases c : x = p
    · rw [if_pos c, if_pos c]; rfl
    · rw [if_neg c, if_neg c]; exact h2 x

structure Sent (B : Nat) (w0 w : World) (gN M : Nat) (d s : Int) (v : Value) (ps : List Pk) (g : Pk → Int) : Prop where
  net : NetI w gN d s v ps
  map : Sm w M g
  apart : ¬ NS gN v M
  below : Below B w0 w
  base : ∀ i, NS gN v i ∨ i = M → B ≤ i
  sz : B ≤ w.heap.size
section
variable {B : Nat} {w0 w w' : World} {gN M : Nat} {d s s' : Int} {v v' : Value} {ps ps' : List Pk} {g g' : Pk → Int}
theorem Sent.prog (h : Sent B w0 w gN M d s v ps g) (hn : NetI w' gN d s' v' ps') (hk : Keeps (NS gN v) w w') (ha : At w v v') : Sent B w0 w' gN M d s' v' ps' g :=
  ⟨hn, h.map.heap (hk.block M h.map.lt h.apart), fun hi => by
    rcases ha.ns hi with h1 | h1
    · exact h.apart h1
    · have := h.map.lt; omega,
   kp_below_of h.below hk (fun i hi => h.base i (.inl hi)) h.sz, fun i hi => by
    rcases hi with hi | hi
    · rcases ha.ns hi with h1 | h1
      · exact h.base i (.inl h1)
      · exact Nat.le_trans h.sz h1
    · exact h.base i (.inr hi), Nat.le_trans h.sz hk.size⟩
theorem Sent.put (h : Sent B w0 w gN M d s v ps g) (hm : Sm w' M g') (hg : w.grownBy w' (some M)) : Sent B w0 w' gN M d s v ps g' :=
  have hk : Keeps (fun i => i = M) w w' := kp_grown hg (fun i e => by cases e; rfl)
  ⟨h.net.kp hk (fun i hi hn => h.apart (hi ▸ hn)), hm, h.apart, kp_below_of h.below hk (fun i hi => h.base i (.inr hi)) h.sz, h.base, Nat.le_trans h.sz hk.size⟩
theorem Sent.stay (h : Sent B w0 w gN M d s v ps g) (hb : Below w.heap.size w w') : Sent B w0 w' gN M d s v ps g :=
  ⟨h.net.below hb, h.map.heap (hb.block M h.map.lt), h.apart, h.below.trans (hb.mono h.sz), h.base, Nat.le_trans h.sz hb.size⟩
end

/-! ### the plain law -/
/-- till a packet came twice, no more of it is on its way than was sent; after, all that is on its way was sent -/
structure Was (tw : Bool) (ps : List Pk) (g : Pk → Int) (q : Nat) : Prop where
  ge : ∀ p, 0 ≤ g p
  le : ∀ p, g p ≤ q
  on : ∀ p ∈ ps, 0 < g p
  cnt : tw = false → ∀ p, (ps.count p : Int) ≤ g p
theorem was_new : Was false [] (fun _ => 0) 0 := ⟨fun _ => Int.le_refl 0, fun _ => Int.le_refl 0, fun _ h => (List.not_mem_nil h).elim, fun _ _ => Int.le_refl 0⟩
theorem was_next {tw ps g q} (h : Was tw ps g q) : Was tw ps g (q + 1) := ⟨h.ge, fun p => by have := h.le p; omega, h.on, h.cnt⟩
theorem was_send {tw ps g q} (h : Was tw ps g q) (x : Pk) : Was tw (ps ++ [x]) (upd g x (g x + 1)) (q + 1) := by
  refine ⟨fun p => ?_, fun p => ?_, fun p hp => ?_, fun e p => ?_⟩
  · unfold upd; have := h.ge p; have := h.ge x; split <;> omega
  · unfold upd; have := h.le p; have := h.le x; split <;> omega
  · unfold upd
    rcases List.mem_append.1 hp with hp | hp
    · have := h.on p hp; have := h.ge x; split <;> omega
    · simp at hp; rw [if_pos hp]; have := h.ge x; omega
  · have := h.cnt e p
    unfold upd
    rw [List.count_append]
    by_cases c : p = x
    · rw [if_pos c]; subst c; simp; omega
    · rw [if_neg c, List.count_cons_of_ne (fun h => c h.symm)]; simpa using this
theorem count_erase {ps : List Pk} {k : Nat} (hk : k < ps.length) (p : Pk) : ps.count p = (ps.eraseIdx k).count p + (if p = ps[k] then 1 else 0) := by
  conv => lhs; rw [← List.take_append_drop k ps, List.drop_eq_getElem_cons hk]
  rw [List.eraseIdx_eq_take_drop_succ, List.count_append, List.count_append, List.count_cons]
  by_cases c : p = ps[k]
  · simp [c]; omega
  · have c' : ¬ ps[k] = p := fun h => c h.symm
    simp [c, c']
theorem was_take {ps : List Pk} {g q} (h : Was false ps g q) {k : Nat} (hk : k < ps.length) : Was false (ps.eraseIdx k) (upd g ps[k] (g ps[k] - 1)) (q + 1) := by
  have hc : ∀ p, ((ps.eraseIdx k).count p : Int) ≤ upd g ps[k] (g ps[k] - 1) p := fun p => by
    have h1 := h.cnt rfl p
    have h2 := count_erase hk p
    unfold upd
    by_cases c : p = ps[k]
    · rw [if_pos c] at h2 ⊢; rw [← c]; omega
    · rw [if_neg c] at h2 ⊢; omega
  refine ⟨fun p => ?_, fun p => ?_, fun p hp => ?_, fun _ => hc⟩
  · have := hc p; omega
  · unfold upd; have := h.le p; have := h.le ps[k]; split <;> omega
  · have h1 := hc p
    have h2 := List.count_pos_iff.2 hp
    omega
theorem was_gone {ps : List Pk} {g q} (h : Was true ps g q) (k : Nat) : Was true (ps.eraseIdx k) g (q + 1) :=
  ⟨h.ge, (was_next h).le, fun p hp => h.on p (List.mem_of_mem_eraseIdx hp), fun e => by cases e⟩
theorem was_twice {tw} {ps : List Pk} {g q} (h : Was tw ps g q) {k : Nat} (hk : k < ps.length) : Was true (ps ++ [ps.getD k pk0]) g (q + 1) :=
  ⟨h.ge, (was_next h).le, fun p hp => by
    rcases List.mem_append.1 hp with hp | hp
    · exact h.on p hp
    · simp [List.getD_eq_getElem?_getD, hk] at hp; exact h.on p (hp ▸ List.getElem_mem hk), fun e => by cases e⟩
theorem was_cut {tw} {ps : List Pk} {g q} (h : Was tw ps g q) (who : Int) : Was tw (keptL who ps) g (q + 1) :=
  ⟨h.ge, (was_next h).le, fun p hp => h.on p (List.mem_filter.1 hp).1, fun e p => by
    have h1 := h.cnt e p
    have h2 : (keptL who ps).count p ≤ ps.count p := List.Sublist.count_le _ List.filter_sublist
    omega⟩
end Go.Proofs.Ytnefjmgpbbgifaa
