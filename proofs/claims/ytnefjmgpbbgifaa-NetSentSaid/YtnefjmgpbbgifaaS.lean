/- Two nets side by side: the program's and the document's. -/
import Derived.Test.YtnefjmgpbbgifaaQ4
namespace Go.Proofs.Ytnefjmgpbbgifaa
open Go.RowKit
attribute [local go_sem] bs_size bs_getElem bs_list bs_append

structure Two (B : Nat) (w0 w : World) (gN gR : Nat) (d s : Int) (v : Value) (ps : List Pk) (s2 : Int) (u : Value) (qs : List Pk) : Prop where
  net : NetI w gN d s v ps
  ref : RefI w gR d s2 u qs
  apart : ∀ i, NS gN v i → ¬ NS gR u i
  below : Below B w0 w
  base : ∀ i, NS gN v i ∨ NS gR u i → B ≤ i
  sz : B ≤ w.heap.size
section
variable {B : Nat} {w0 w w' : World} {gN gR : Nat} {d s s' s2 : Int} {v v' u u' : Value} {ps ps' qs qs' : List Pk}
theorem ns_lt (h : NetI w gN d s v ps) {i : Nat} (hi : NS gN v i) : i < w.heap.size := by
  rcases hi with rfl | hi
  · exact h.lt
  · exact own_lt h.own hi
theorem rs_lt (h : RefI w gR d s v ps) {i : Nat} (hi : NS gR v i) : i < w.heap.size := by
  rcases hi with rfl | hi
  · exact h.lt
  · exact own_lt h.own hi
theorem At.ns (ha : At w v v') {i : Nat} (hi : NS gN v' i) : NS gN v i ∨ w.heap.size ≤ i := by
  rcases hi with hi | hi
  · exact .inl (.inl hi)
  · rcases ha i hi with h | h
    · exact .inl (.inr h)
    · exact .inr h
theorem Two.prog (h : Two B w0 w gN gR d s v ps s2 u qs) (hn : NetI w' gN d s' v' ps') (hk : Keeps (NS gN v) w w') (ha : At w v v') : Two B w0 w' gN gR d s' v' ps' s2 u qs :=
  ⟨hn, h.ref.kp hk h.apart, fun i hi hr => by
    rcases ha.ns hi with h1 | h1
    · exact h.apart i h1 hr
    · have := rs_lt h.ref hr; omega,
   kp_below_of h.below hk (fun i hi => h.base i (.inl hi)) h.sz, fun i hi => by
    rcases hi with hi | hi
    · rcases ha.ns hi with h1 | h1
      · exact h.base i (.inl h1)
      · exact Nat.le_trans h.sz h1
    · exact h.base i (.inr hi), Nat.le_trans h.sz hk.size⟩
theorem Two.docs (h : Two B w0 w gN gR d s v ps s2 u qs) (hn : RefI w' gR d s' u' qs') (hk : Keeps (NS gR u) w w') (ha : At w u u') : Two B w0 w' gN gR d s v ps s' u' qs' :=
  ⟨h.net.kp hk (fun i hi hn => h.apart i hn hi), hn, fun i hi hr => by
    rcases ha.ns hr with h1 | h1
    · exact h.apart i hi h1
    · have := ns_lt h.net hi; omega,
   kp_below_of h.below hk (fun i hi => h.base i (.inr hi)) h.sz, fun i hi => by
    rcases hi with hi | hi
    · exact h.base i (.inl hi)
    · rcases ha.ns hi with h1 | h1
      · exact h.base i (.inr h1)
      · exact Nat.le_trans h.sz h1, Nat.le_trans h.sz hk.size⟩
theorem Two.stay (h : Two B w0 w gN gR d s v ps s2 u qs) (hb : Below w.heap.size w w') : Two B w0 w' gN gR d s v ps s2 u qs :=
  ⟨h.net.below hb, h.ref.below hb, h.apart, h.below.trans (hb.mono h.sz), h.base, Nat.le_trans h.sz hb.size⟩
theorem At.refl (w : World) (v : Value) : At w v v := fun _ h => .inl h
theorem At.of (h : v'.ownBlock = v.ownBlock ∨ ∃ g, v'.ownBlock = some g ∧ w.heap.size ≤ g) : At w v v' := fun q hq => by
  rcases h with h | ⟨g, h, hg⟩
  · exact .inl (h ▸ hq)
  · rw [h] at hq; cases hq; exact .inr hg
/-- a block of one's own, newer than the base, that no net holds -/
theorem Blk.prog {g : Nat} {t : TypeId} {cs : Array Value} (hb : Blk w g t cs) (hk : Keeps (NS gN v) w w') (hn : ¬ NS gN v g) : Blk w' g t cs := Blk.kp hb hk hn
end

/-- what Send answers -/
def sendIs (d : Int) (n : Nat) (x : Pk) : Int := if ¬ (0 ≤ x.f ∧ x.f < d) ∨ ¬ (0 ≤ x.t ∧ x.t < d) ∨ x.f = x.t then 1 else if x.d.length > 60000 then 40 else if 500 ≤ n then 41 else 0
def sendS (d : Int) (n : Nat) (x : Pk) (s : Int) : Int := if sendIs d n x = 0 then s + 1 else s
def sendL (d : Int) (ps : List Pk) (x : Pk) : List Pk := if sendIs d ps.length x = 0 then ps ++ [x] else ps
theorem sendIs_bad {d : Int} {n : Nat} {x : Pk} (h : ¬ (0 ≤ x.f ∧ x.f < d) ∨ ¬ (0 ≤ x.t ∧ x.t < d) ∨ x.f = x.t) : sendIs d n x = 1 := if_pos h
theorem send_any (gN : Nat) (d s : Int) (v : Value) (ps : List Pk) (x : Pk) (w : World) (hN : NetI w gN d s v ps) (hs0 : 0 ≤ s) (hs1 : s ≤ 1000000) (hm : ps.length ≤ 1000000) (hx : x.d.length ≤ 9223372036854775807) :
    Calls Try.prog 11 #[.pointer (some ⟨gN, 0, none⟩), pv x] w fun e w' => ∃ v', e = .returned (.int .i64 (sendIs d ps.length x)) ∧ NetI w' gN d (sendS d ps.length x s) v' (sendL d ps x) ∧ Keeps (NS gN v) w w' ∧ At w v v' := by
  by_cases h : ¬ (0 ≤ x.f ∧ x.f < d) ∨ ¬ (0 ≤ x.t ∧ x.t < d) ∨ x.f = x.t
  · refine (send_bad gN d s v ps x w hN h).mono ?_
    rintro e w' ⟨rfl, hb⟩
    have he := sendIs_bad (n := ps.length) h
    unfold sendS sendL
    rw [he]
    exact ⟨v, rfl, hN.below hb, kp_below hb, At.refl _ _⟩
  · have h1 : 0 ≤ x.f ∧ x.f < d := Decidable.byContradiction fun h' => h (.inl h')
    have h2 : 0 ≤ x.t ∧ x.t < d := Decidable.byContradiction fun h' => h (.inr (.inl h'))
    have h3 : x.f ≠ x.t := fun h' => h (.inr (.inr h'))
    have he : sendIs d ps.length x = if x.d.length > 60000 then 40 else if 500 ≤ ps.length then 41 else 0 := if_neg h
    refine (send_rest gN d s v ps x w hN h1 h2 h3 hs0 hs1 hm hx).mono ?_
    rintro e w' ⟨v', rfl, hn, hk, ha⟩
    unfold sendS sendL
    rw [he]
    refine ⟨v', rfl, ?_, hk, At.of ha⟩
    by_cases c1 : x.d.length > 60000
    · simpa [c1] using hn
    · by_cases c2 : 500 ≤ ps.length
      · simpa [c1, c2] using hn
      · simpa [c1, c2] using hn
theorem rsend_any (gR : Nat) (d s : Int) (v : Value) (ps : List Pk) (x : Pk) (w : World) (hN : RefI w gR d s v ps) (hs0 : 0 ≤ s) (hs1 : s ≤ 1000000) (hm : ps.length ≤ 1000000) :
    Calls Try.prog 17 #[.pointer (some ⟨gR, 0, none⟩), pv x] w fun e w' => ∃ v', e = .returned (.int .i64 (sendIs d ps.length x)) ∧ RefI w' gR d (sendS d ps.length x s) v' (sendL d ps x) ∧ Keeps (NS gR v) w w' ∧ At w v v' := by
  by_cases h : ¬ (0 ≤ x.f ∧ x.f < d) ∨ ¬ (0 ≤ x.t ∧ x.t < d) ∨ x.f = x.t
  · refine (rsend_bad gR d s v ps x w hN h).mono ?_
    rintro e w' ⟨rfl, hb⟩
    have he := sendIs_bad (n := ps.length) h
    unfold sendS sendL
    rw [he]
    exact ⟨v, rfl, hN.below hb, kp_below hb, At.refl _ _⟩
  · have h1 : 0 ≤ x.f ∧ x.f < d := Decidable.byContradiction fun h' => h (.inl h')
    have h2 : 0 ≤ x.t ∧ x.t < d := Decidable.byContradiction fun h' => h (.inr (.inl h'))
    have h3 : x.f ≠ x.t := fun h' => h (.inr (.inr h'))
    have he : sendIs d ps.length x = if x.d.length > 60000 then 40 else if 500 ≤ ps.length then 41 else 0 := if_neg h
    unfold sendS sendL
    rw [he]
    by_cases c : x.d.length > 60000 ∨ 500 ≤ ps.length
    · refine (rsend_no gR d s v ps x w hN h1 h2 h3 c hm).mono ?_
      rintro e w' ⟨rfl, hb⟩
      have hz : ¬ (if x.d.length > 60000 then (40 : Int) else if 500 ≤ ps.length then 41 else 0) = 0 := by
        rcases c with c | c
        · simp [c]
        · by_cases c1 : x.d.length > 60000 <;> simp [c1, c]
      rw [if_neg hz, if_neg hz]
      refine ⟨v, ?_, hN.below hb, kp_below hb, At.refl _ _⟩
      by_cases c1 : x.d.length > 60000
      · simp [c1]
      · rcases c with c | c
        · exact absurd c c1
        · simp [c1, c]
    · have c1 : ¬ x.d.length > 60000 := fun h' => c (.inl h')
      have c2 : ps.length < 500 := by
        rcases Nat.lt_or_ge ps.length 500 with h' | h'
        · exact h'
        · exact absurd (.inr h') c
      refine (rsend_ok gR d s v ps x w hN h1 h2 h3 c1 c2 hs0 hs1).mono ?_
      rintro e w' ⟨v', rfl, hn, hk, ha⟩
      have hz : (if x.d.length > 60000 then (40 : Int) else if 500 ≤ ps.length then 41 else 0) = 0 := by simp [c1, Nat.not_le.2 c2]
      rw [hz]
      exact ⟨v', rfl, hn, hk, At.of ha⟩
end Go.Proofs.Ytnefjmgpbbgifaa
