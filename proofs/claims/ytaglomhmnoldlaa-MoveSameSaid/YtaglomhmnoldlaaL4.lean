/- The walk of MovePlays: the program's state beside the document's. -/
import Derived.Test.YtaglomhmnoldlaaAx
namespace Go.Proofs.Ytaglomhmnoldlaa
open Go.RowKit
attribute [local go_sem] bs_size bs_getElem bs_list bs_append

/-- the program's state and the document's, apart in memory -/
structure Two (w wr : World) (p m pr : Nat) (v v2 : Value) (r : Int) (L : List TOp) (r2 : Int) (L2 : List TOp) : Prop where
  live : Live w wr p m v r L
  ref : RefS wr w.heap.size pr v2 r2 L2
  np : pr ≠ p
  nm : pr ≠ m
  nv : v.ownBlock ≠ some pr
  rp : v2.ownBlock ≠ some p
  rm : v2.ownBlock ≠ some m
  rv : ∀ g, v.ownBlock = some g → v2.ownBlock ≠ some g
section
variable {w wr w' : World} {p m pr : Nat} {v v2 v' v2' : Value} {r r2 r' r2' : Int} {L L2 L' L2' : List TOp}
theorem Two.then_ (h : Two w wr p m pr v v2 r L r2 L2) (hb : Below wr.heap.size wr w') : Two w w' p m pr v v2 r L r2 L2 :=
  ⟨h.live.then_ hb, h.ref.below hb, h.np, h.nm, h.nv, h.rp, h.rm, h.rv⟩
theorem OwnC.keepV {B size n : Nat} {u : Value} {xs : List Value} (h : OwnC wr B size u n xs) (k : KeepV wr w' p m v) (h1 : u.ownBlock ≠ some p) (h2 : u.ownBlock ≠ some m) (h3 : ∀ g, v.ownBlock = some g → u.ownBlock ≠ some g) : OwnC w' B size u n xs := by
  refine ⟨h.1, ?_⟩
  rcases h.2 with hn | ⟨g, cap, rfl, hb, hlt, hnc, hcm, hs, hf, hx⟩
  · exact .inl hn
  · have hblk : w'.heap[g]? = wr.heap[g]? := k.block g hlt (fun e => h1 (by rw [← e]; rfl)) (fun e => h2 (by rw [← e]; rfl)) (fun e => h3 g e.symm rfl)
    have hc : ∀ j, w'.cell? ⟨g, j, none⟩ = wr.cell? ⟨g, j, none⟩ := fun j => World.cell?_of_block (a := ⟨g, j, none⟩) hblk
    have hz : ∀ j, w'.frozen? ⟨g, j, none⟩ = wr.frozen? ⟨g, j, none⟩ := fun j => World.frozen?_of_block (a := ⟨g, j, none⟩) hblk
    exact .inr ⟨g, cap, rfl, hb, Nat.lt_of_lt_of_le hlt k.size, hnc, hcm, fun j hj => by rw [hc]; exact hs j hj, fun j hj => by rw [hz]; exact hf j hj, fun j u hu => by rw [hc]; exact hx j u hu⟩
theorem Two.ins (h : Two w wr p m pr v v2 r L r2 L2) (hl : Live w w' p m v' r' L') (k : KeepV wr w' p m v) (ho : ∀ g, v'.ownBlock = some g → v.ownBlock = some g ∨ wr.heap.size ≤ g) : Two w w' p m pr v' v2 r' L' r2 L2 := by
  have hlt := h.ref.blk.lt
  refine ⟨hl, ⟨?_, h.ref.own.keepV k h.rp h.rm h.rv, h.ref.nep, h.ref.sorted, h.ref.len, h.ref.short, h.ref.p_ge⟩, h.np, h.nm, fun e => ?_, h.rp, h.rm, fun g hg e => ?_⟩
  · exact (k.block pr hlt h.np h.nm (fun e => h.nv e.symm)).trans h.ref.blk
  · rcases ho pr e with h1 | h1
    · exact h.nv h1
    · omega
  · rcases ho g hg with h1 | h1
    · exact h.rv g h1 e
    · have := (OwnC.ge h.ref.own g e).2; omega
theorem Two.rins (h : Two w wr p m pr v v2 r L r2 L2) (hr : RefS w' w.heap.size pr v2' r2' L2') (hg : wr.grownBy w' (some pr)) (ho : ∀ g, v2'.ownBlock = some g → v2.ownBlock = some g ∨ wr.heap.size ≤ g) : Two w w' p m pr v v2' r L r2' L2' := by
  have hl := h.live
  have hs : Stt w' p m v r (foldE L) := hl.mov.s3.stt.grownO hg (fun e => h.np (Option.some.inj e).symm) (fun e => h.nm (Option.some.inj e).symm)
  have hlog := OwnC.kept hl.mov.s3.log hg (.inr h.nv)
  refine ⟨⟨⟨⟨hs, hlog, hl.mov.s3.nep, hl.mov.s3.nem⟩, hl.mov.sorted, hl.mov.len, hl.mov.p_ge, hl.mov.m_ge⟩, below_gb hl.below hg h.ref.p_ge hl.below.size, hl.short⟩, hr, h.np, h.nm, h.nv, fun e => ?_, fun e => ?_, fun g hg' e => ?_⟩
  · rcases ho p e with h1 | h1
    · exact h.rp h1
    · have := hl.p_lt; omega
  · rcases ho m e with h1 | h1
    · exact h.rm h1
    · have := hl.m_lt; omega
  · rcases ho g e with h1 | h1
    · exact h.rv g hg' h1
    · have := (hl.v_lt g hg').2; omega
end
theorem rins_two (x : TOp) (hx : OpS x) {w wr : World} {p m pr : Nat} {v v2 : Value} {r r2 : Int} {L L2 : List TOp} (h : Two w wr p m pr v v2 r L r2 L2) :
    Calls Try.prog 17 #[.pointer (some ⟨pr, 0, none⟩), ov x] wr fun e w' => ∃ v2', e = .returned (.int .i64 (codeO L2 x)) ∧ Two w w' p m pr v v2' r L (redO r2 L2 x) (insO L2 x) := by
  refine (rinsert_st x hx w.heap.size pr v2 r2 L2 wr h.ref h.live.size).mono ?_
  rintro e w' ⟨v', N', rfl, hr, hg, ho, h0, h1⟩
  have hN : N' = redO r2 L2 x := by
    unfold redO
    by_cases hc : codeO L2 x = 0
    · rw [if_pos hc]; exact h0 hc
    · rw [if_neg hc]; exact h1 hc
  subst hN
  exact ⟨v', rfl, h.rins hr hg ho⟩
theorem ins_two (x : TOp) (hx : OpS x) {w wr : World} {p m pr : Nat} {v v2 : Value} {r r2 : Int} {L L2 : List TOp} (h : Two w wr p m pr v v2 r L r2 L2) :
    Calls Try.prog 12 #[.pointer (some ⟨p, 0, none⟩), ov x] wr fun e w' => ∃ v', e = .returned (.int .i64 (codeO L x)) ∧ Two w w' p m pr v' v2 (redO r L x) (insO L x) r2 L2 := by
  refine (insert_live x hx p m v r L w wr h.live).mono ?_
  rintro e w' ⟨v', rfl, hl, hk, ho⟩
  exact ⟨v', rfl, h.ins hl hk ho⟩
/-- what is read of the document's state -/
theorem Two.cells {w wr : World} {p m pr : Nat} {v v2 : Value} {r r2 : Int} {L L2 : List TOp} (h : Two w wr p m pr v v2 r L r2 L2) : ∃ A c, v2 = .slice A L2.length c ∧ Ops wr A L2.length c L2 ∧ wr.cell? ⟨pr, 0, none⟩ = some (.slice A L2.length c) ∧ wr.cell? ⟨pr, 1, none⟩ = some (.int .i64 r2) := by
  obtain ⟨A, c, rfl, ho⟩ := h.ref.own.ops h.ref.short
  exact ⟨A, c, rfl, ho, by rw [h.ref.blk.cell]; rfl, by rw [h.ref.blk.cell]; rfl⟩
end Go.Proofs.Ytaglomhmnoldlaa
