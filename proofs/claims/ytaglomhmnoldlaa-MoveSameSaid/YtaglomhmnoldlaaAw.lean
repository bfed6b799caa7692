/- A state that lives in a law; the chapter's example. -/
import Derived.Test.YtaglomhmnoldlaaPn
import Derived.Test.YtaglomhmnoldlaaSf
namespace Go.Proofs.Ytaglomhmnoldlaa
open Go.RowKit
attribute [local go_sem] bs_size bs_getElem bs_list bs_append

/-- a state of the operations L, made behind w1 -/
structure Live (w1 w : World) (p m : Nat) (v : Value) (r : Int) (L : List TOp) : Prop where
  mov : Mov w w1.heap.size p m v r L
  below : Below w1.heap.size w1 w
  short : ShortO L
theorem Live.then_ {w1 w w' : World} {p m : Nat} {v : Value} {r : Int} {L : List TOp} (h : Live w1 w p m v r L) (hb : Below w.heap.size w w') : Live w1 w' p m v r L :=
  ⟨h.mov.below hb, h.below.trans (hb.mono h.below.size), h.short⟩
theorem Live.size {w1 w : World} {p m : Nat} {v : Value} {r : Int} {L : List TOp} (h : Live w1 w p m v r L) : w1.heap.size ≤ w.heap.size := h.below.size
theorem Live.p_lt {w1 w : World} {p m : Nat} {v : Value} {r : Int} {L : List TOp} (h : Live w1 w p m v r L) : p < w.heap.size := h.mov.s3.stt.blk.lt
theorem Live.m_lt {w1 w : World} {p m : Nat} {v : Value} {r : Int} {L : List TOp} (h : Live w1 w p m v r L) : m < w.heap.size := h.mov.s3.stt.map.lt
theorem Live.v_lt {w1 w : World} {p m : Nat} {v : Value} {r : Int} {L : List TOp} (h : Live w1 w p m v r L) : ∀ g, v.ownBlock = some g → w1.heap.size ≤ g ∧ g < w.heap.size := fun g hg => OwnC.ge h.mov.s3.log g hg
theorem short_ins {L : List TOp} {x : TOp} (h : ShortO L) (hx : OpS x) : ShortO (insO L x) := by
  unfold insO
  split
  · unfold addO
    intro y hy
    rcases List.mem_append.1 hy with hy | hy
    · exact h y (List.mem_of_mem_take hy)
    · rcases List.mem_cons.1 hy with rfl | hy
      · exact hx
      · exact h y (List.mem_of_mem_drop hy)
  · exact h
/-- how many are done again -/
def redO (r : Int) (L : List TOp) (x : TOp) : Int := if codeO L x = 0 then (L.length : Int) - (atO L x.st : Int) else r

theorem new_live (w : World) : Calls Try.prog 10 #[] w fun e w' => e = .returned (.pointer (some ⟨w.heap.size + 1, 0, none⟩)) ∧ Live w w' (w.heap.size + 1) w.heap.size (.slice none 0 0) 0 [] := by
  refine (new_st w).mono ?_
  rintro e w' ⟨rfl, hs, hb, hz⟩
  refine ⟨rfl, ⟨⟨⟨hs, ?_, ?_, ?_⟩, List.Pairwise.nil, by simp, by omega, Nat.le_refl _⟩, hb, fun x hx => by cases hx⟩⟩
  · exact OwnC.nil_ _ _ _
  · intro h; cases h
  · intro h; cases h

/-- Insert, and what else is kept -/
theorem insert_live (x : TOp) (hx : OpS x) (p m : Nat) (v : Value) (r : Int) (L : List TOp) (w1 w : World) (h : Live w1 w p m v r L) :
    Calls Try.prog 12 #[.pointer (some ⟨p, 0, none⟩), ov x] w fun e w' => ∃ v', e = .returned (.int .i64 (codeO L x)) ∧ Live w1 w' p m v' (redO r L x) (insO L x) ∧ KeepV w w' p m v ∧ (∀ g, v'.ownBlock = some g → v.ownBlock = some g ∨ w.heap.size ≤ g) := by
  refine (insert_st x w1.heap.size p m v r L w h.mov h.size).mono ?_
  rintro e w' ⟨v', r', rfl, hm, hk, hg, h0, h1⟩
  have hr : r' = redO r L x := by
    unfold redO
    by_cases hc : codeO L x = 0
    · rw [if_pos hc]; exact h0 hc
    · rw [if_neg hc]; exact h1 hc
  subst hr
  refine ⟨v', rfl, ⟨hm, h.below.trans ?_, short_ins h.short hx⟩, hk, hg⟩
  exact hk.toBelow h.size h.mov.p_ge h.mov.m_ge (fun g hg => (h.v_lt g hg).1)
theorem foldN_short {L : List TOp} (h : ShortO L) : Short (foldN L) := by
  have : ∀ (L : List TOp) (xs : List Nd), ShortO L → Short xs → Short (L.foldl doN xs) := by
    intro L
    induction L with
    | nil => exact fun xs _ h => h
    | cons x L ih => exact fun xs hl hs => ih _ (fun y hy => hl y (List.mem_cons_of_mem _ hy)) (doN_short hs (hl x List.mem_cons_self))
  exact this L [] h (fun x hx => by cases hx)
theorem nodes_live {p m : Nat} {v : Value} {r : Int} {L : List TOp} {w1 w : World} (h : Live w1 w p m v r L) : Calls Try.prog 13 #[.pointer (some ⟨p, 0, none⟩)] w (Done w (foldN L)) := by
  have hl := h.mov.len
  have hf := foldE_len L
  refine (nodes_st p m v r (foldE L) w h.mov.s3.stt (by omega)).mono ?_
  rintro e w' ⟨v2, s, rfl, hp, hs, ho, hb⟩
  obtain rfl := sorted_fold hp hs
  exact Done.own ho (foldN_short h.short) hb
theorem redone_live {p m : Nat} {v : Value} {r : Int} {L : List TOp} {w1 w : World} (h : Live w1 w p m v r L) : Calls Try.prog 11 #[.pointer (some ⟨p, 0, none⟩)] w fun e w' => e = .returned (.int .i64 r) ∧ w = w' := redone_st p m v r (foldE L) w h.mov.s3.stt
theorem ops_live {p m : Nat} {v : Value} {r : Int} {L : List TOp} {w1 w : World} (h : Live w1 w p m v r L) : Calls Try.prog 19 #[.pointer (some ⟨p, 0, none⟩)] w fun e w' => ∃ A c, e = .returned (.slice A L.length c) ∧ Ops w' A L.length c L ∧ Below w.heap.size w w' := by
  refine (ops_st w1.heap.size p m v r L w h.mov).mono ?_
  rintro e w' ⟨v', rfl, hr⟩
  obtain ⟨A, c, rfl, ho⟩ := OwnO.ops hr.own h.short
  exact ⟨A, c, rfl, ho, hr.below⟩
end Go.Proofs.Ytaglomhmnoldlaa
