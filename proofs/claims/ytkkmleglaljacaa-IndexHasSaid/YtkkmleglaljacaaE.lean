/- An index in memory: New, Ranges, Add. -/
import Derived.Test.YtkkmleglaljacaaD
namespace Go.Proofs.Ytkkmleglaljacaa
open Go.RowKit

structure Idx (t : TypeId) (w : World) (g : Nat) (v : Value) (l : List Rg) : Prop where
  blk : Blk w g t #[v]
  own : w.ownsRow 0 33 3 v l.length (rcs l)
  canon : Canon l
  right : ∀ x ∈ l, RightR x
theorem row_not {w : World} {B : Nat} {size n : Nat} {v : Value} {xs : List Value} (h : w.ownsRow B 33 size v n xs) {g : Nat} {t : TypeId} {cs : Array Value} (hb : Blk w g t cs) (ht : t ≠ 33) : v.ownBlock ≠ some g := by
  intro e
  rcases h.2 with ⟨rfl, _⟩ | ⟨g', cap, cur, rfl, _, hh, _⟩
  · simp [Value.ownBlock] at e
  · simp [Value.ownBlock] at e
    subst e
    unfold Blk at hb
    rw [hb] at hh
    cases hh
    exact ht rfl
section
variable {t t' : TypeId} {w w' : World} {g g' : Nat} {v : Value} {l : List Rg} {cs : Array Value}
theorem Idx.cell (h : Idx t w g v l) : w.cell? ⟨g, 0, none⟩ = some v := by rw [h.blk.cell]; rfl
theorem Idx.lt (h : Idx t w g v l) : g < w.heap.size := h.blk.lt
theorem Idx.sl (h : Idx t w g v l) : ∃ A c, v = .slice A l.length c ∧ Sl w 3 RgC A l.length c l := own_sl h.own (fun x hx => (h.right x hx).r64)
theorem Idx.slice (h : Idx t w g v l) : ∃ A c, v = .slice A l.length c := row_slice h.own
theorem Idx.below (h : Idx t w g v l) (hb : Below w.heap.size w w') : Idx t w' g v l := ⟨h.blk.below hb h.lt, row_below h.own hb, h.canon, h.right⟩
theorem Idx.other (h : Idx t w g v l) (hb : Blk w g' t' cs) (ht : t' ≠ 33) (hne : g ≠ g') (hg : w.grownBy w' (some g')) : Idx t w' g v l :=
  ⟨h.blk.grown hg (fun e => hne (by cases e; rfl)), h.own.kept hg (.inr (row_not h.own hb ht)), h.canon, h.right⟩
end

set_option maxHeartbeats 400000 in
theorem new_any (w : World) : Calls Try.prog 9 #[] w fun e w' => e = .returned (.pointer (some ⟨w.heap.size, 0, none⟩)) ∧ Idx 49 w' w.heap.size (.slice none 0 0) [] ∧ Below w.heap.size w w' := by
  go_enter Try.func9, Try.ntmps9
  go_wp2_with fail
  go_ret
  exact ⟨rfl, ⟨Blk.new _ _ _, World.ownsRow_nil _ _ _ _, ⟨List.Pairwise.nil, fun _ h => by cases h⟩, fun _ h => by cases h⟩, (Below.refl _ w).alloc (Nat.le_refl _) _⟩

set_option maxRecDepth 100000 in
set_option maxHeartbeats 400000 in
theorem ranges_any (g : Nat) (v : Value) (l : List Rg) (w : World) (h : Idx 49 w g v l) (hm : l.length ≤ 1000000) :
    Calls Try.prog 16 #[.pointer (some ⟨g, 0, none⟩)] w fun e w' => ∃ u, e = .returned u ∧ OwnC w' w.heap.size 3 u l.length (rcs l) ∧ Below w.heap.size w w' := by
  have hc := h.cell
  have hl := h.lt
  obtain ⟨A, c, rfl, hx⟩ := h.sl
  have HC := Lib.hid (clone_any l.length c A l w hx hm)
  clear h hx
  go_enter Try.func16, Try.ntmps16
  go_wp2_with fail
  refine HC.out.mono ?_
  rintro e w' ⟨u, rfl, ho, hb⟩
  have HO := Lib.hid ho
  have HB := Lib.hid hb
  clear ho hb
  go_wp2_with fail
  go_ret
  exact ⟨_, rfl, HO.out, HB.out⟩
set_option maxHeartbeats 400000 in
theorem ranges_nil (w : World) : Calls Try.prog 16 #[.pointer none] w fun e w' => e = .returned (.slice none 0 0) ∧ w = w' := by
  go_enter Try.func16, Try.ntmps16
  go_wp2_with fail
  go_ret
  exact ⟨rfl, rfl⟩

/-- append as a step of a region that draws, at a slice said cell by cell -/
theorem step_append_C {P : Program} {ops : Array Oper} {o : Oper} {a : Act} {w : World} {K : Act → World → Prop} {Q : Exit → Act → World → Prop} {E : Prop} (hgd : o.guard = none) (s y : Operand) (t tx : TypeId)
    (ho : o.op = .call { callee := .builtin .append, args := #[s, y], argTypes := #[t, tx] })
    (e : TypeId) (i : TypeInfo) (z : Value) (size : Nat) (ht : P.underlying t = some (.slice e)) (hi : P.info? e = some i) (hz : i.zero = some z) (hsize : i.size = size) (hzs : z.cells.size = size) (hsz : 0 < size)
    (B : Nat) (v : Value) (n : Nat) (xs : List Value) (hs : a.eval s = v) (hown : OwnC w B size v n xs) (x : Value) (hx : a.eval y = x) (m : Nat) (news : List Value) (hsrc : Src P size tx x m news w)
    (h63 : n + m ≤ maxLen) (hbytes : (n + m) * i.bytes ≤ 140737488355328) (hB : B ≤ w.heap.size)
    (h : ∀ v' w', OwnC w' B size v' (n + m) (xs ++ news) → w.grownBy w' v.ownBlock → (v'.ownBlock = v.ownBlock ∨ v'.ownBlock = some w.heap.size) → K (a.put o.dst v') w') :
    if Region.wanted o (yielded ops a.tmps) = true then Oper.wp P o a w K Q else E := by
  have hw : Region.wanted o (yielded ops a.tmps) = true := by simp [Region.wanted, hgd]
  rw [if_pos hw]
  exact wp_append_C w s y t tx ho e i z size ht hi hz hsize hzs hsz B v n xs hs hown x hx m news hsrc h63 hbytes hB h

def KK (g B : Nat) (v : Value) (x : Rg) (W : World) : Prop := Blk W g 49 #[v] ∧ Blk W B 33 #[.int .i64 x.w, .int .i64 x.f, .int .i64 x.t]
theorem KK.cells {g B : Nat} {v : Value} {x : Rg} {W : World} (h : KK g B v x W) : W.cell? ⟨g, 0, none⟩ = some v ∧ W.cell? ⟨B, 0, none⟩ = some (.int .i64 x.w) ∧ W.cell? ⟨B, 1, none⟩ = some (.int .i64 x.f) ∧ W.cell? ⟨B, 2, none⟩ = some (.int .i64 x.t) :=
  ⟨by rw [h.1.cell]; rfl, blk3 h.2⟩
theorem KK.below {g B : Nat} {v : Value} {x : Rg} {W W' : World} (h : KK g B v x W) (hb : Below W.heap.size W W') : KK g B v x W' := ⟨h.1.below hb h.1.lt, h.2.below hb h.2.lt⟩
theorem KK.alloc {g B : Nat} {v : Value} {x : Rg} {W : World} (h : KK g B v x W) (o : Obj) : KK g B v x (W.alloc o) := ⟨h.1.alloc o, h.2.alloc o⟩
theorem KK.drew {g B : Nat} {v : Value} {x : Rg} {W : World} (h : KK g B v x W) : KK g B v x W.drew := h
theorem KK.grown {g B : Nat} {v u : Value} {x : Rg} {W W' : World} (h : KK g B v x W) {n s S : Nat} {xs : List Value} (ho : OwnC W S s u n xs) (hg : W.grownBy W' u.ownBlock) (h1 : g < S) (h2 : B < S) : KK g B v x W' :=
  ⟨h.1.grown hg (fun e => by have := ho.ge g e.symm; omega), h.2.grown hg (fun e => by have := ho.ge B e.symm; omega)⟩

set_option maxRecDepth 100000 in
set_option maxHeartbeats 400000 in
theorem add_bad (g : Nat) (v : Value) (l : List Rg) (x : Rg) (w : World) (_h : Idx 49 w g v l) (hx : ¬ RightR x) :
    Calls Try.prog 11 #[.pointer (some ⟨g, 0, none⟩), rv x] w fun e w' => e = .returned (.tuple #[.int .i64 0, .int .i64 1]) ∧ Below w.heap.size w w' := by
  have hb : Below w.heap.size w (w.alloc (.cells #[.int .i64 x.w, .int .i64 x.f, .int .i64 x.t] 33)) := (Below.refl _ w).alloc (Nat.le_refl _) _
  have hr := fun W => right_any x W
  have hf : rightB x = false := decide_eq_false hx
  rw [hf] at hr
  have hnot : ∀ (x : Bool) (w : World), (Op.unary .not (.bool x)).run Try.prog w = .ok (.bool (!x)) w := fun _ _ => rfl
  have HR := Lib.hid hr
  have HB := Lib.hid hb
  clear hr hb hf hx _h
  unfold rv at HR ⊢
  go_enter Try.func11, Try.ntmps11
  go_wp2_with fail
  refine (HR.out _).mono ?_
  rintro e w' ⟨rfl, hb2⟩
  have hb3 := HB.out.trans (hb2.mono HB.out.size)
  clear hb2
  go_wp2_with fail
  exact bodyPost_ret (v := .tuple #[.int .i64 0, .int .i64 1]) (by simp [results, Try.results11, go_sem]) rfl ⟨rfl, hb3⟩
end Go.Proofs.Ytkkmleglaljacaa
