/- Words for slices that are read, in whatever memory: no program in sight. -/
import Derived.WalkKit
import Derived.WalkSpells
import Derived.WalkLawsBesides
import Derived.Lib.Hide
import Derived.Deep.Slices
import Derived.Laws.OwnMore
import Derived.Deep.AppendLies
import Derived.BigQuiet
namespace Go.Proofs.Ytaglomhmnoldlaa
open Go.RowKit

theorem ret_int {k : IntKind} {a b : Int} (h : a = b) : Ending.returned (.int k a) = .returned (.int k b) := by rw [h]
theorem ret_bool {a b : Bool} (h : a = b) : Ending.returned (.bool a) = .returned (.bool b) := by rw [h]

theorem block_of_add (a : Addr) (n : Nat) : (a.add n).block = a.block := by unfold Addr.add; split <;> rfl
theorem add_of_add (a : Addr) (i j : Nat) : (a.add i).add j = a.add (i + j) := by
  unfold Addr.add
  by_cases hi : i = 0 <;> by_cases hj : j = 0 <;> simp [hi, hj, Nat.add_assoc]

theorem bcell {W w1 : World} {B : Nat} (hb : Below B W w1) : (∀ b o, b < B → w1.cell? ⟨b, o, none⟩ = W.cell? ⟨b, o, none⟩) ∧ (∀ b o, b < B → w1.frozen? ⟨b, o, none⟩ = W.frozen? ⟨b, o, none⟩) :=
  ⟨fun b o h => hb.cell (p := ⟨b, o, none⟩) h, fun b o h => hb.frozen (p := ⟨b, o, none⟩) h⟩

/-- Block g is just the cells cs of element type t, none frozen. -/
def Blk (w : World) (g : Nat) (t : TypeId) (cs : Array Value) : Prop := w.heap[g]? = some (.cells cs t (0, 0))
section
variable {w w' : World} {g : Nat} {t : TypeId} {cs : Array Value}
theorem Blk.lt (h : Blk w g t cs) : g < w.heap.size := by
  rcases Nat.lt_or_ge g w.heap.size with hlt | hge
  · exact hlt
  · unfold Blk at h; rw [Array.getElem?_eq_none hge] at h; cases h
theorem Blk.cell (h : Blk w g t cs) (i : Nat) : w.cell? ⟨g, i, none⟩ = cs[i]? := cell_of_row w g i cs t (0, 0) h
theorem Blk.frozen (h : Blk w g t cs) (i : Nat) : w.frozen? ⟨g, i, none⟩ = false := by
  unfold Blk at h
  simp [World.frozen?, h]
theorem Blk.new (w : World) (t : TypeId) (cs : Array Value) : Blk (w.alloc (.cells cs t)) w.heap.size t cs := heap_alloc_new w _
theorem Blk.drew (h : Blk w g t cs) : Blk w.drew g t cs := h
theorem Blk.drewN (h : Blk w g t cs) (n : Nat) : Blk (w.drewN n) g t cs := h
theorem Blk.alloc (h : Blk w g t cs) (o : Obj) : Blk (w.alloc o) g t cs := (Below.heap_alloc w o g h.lt).trans h
theorem Blk.set_ (h : Blk w g t cs) (i : Nat) (u : Value) : Blk (w.setCell ⟨g, i, none⟩ u) g t (cs.setIfInBounds i u) := by
  unfold Blk at h ⊢
  simp [World.setCell, Array.getElem?_modify, h]
theorem Blk.far (h : Blk w g t cs) {p : Addr} (hp : g ≠ p.block) (u : Value) : Blk (w.setCell p u) g t cs := (Below.heap_setCell w p u g hp).trans h
theorem Blk.below {B : Nat} (h : Blk w g t cs) (hb : Below B w w') (hg : g < B) : Blk w' g t cs := (hb.block g hg).trans h
theorem Blk.grown {row : Option Nat} (h : Blk w g t cs) (hb : w.grownBy w' row) (hg : some g ≠ row) : Blk w' g t cs := (hb.block g h.lt hg).trans h
end

/-- A slice value `.slice A n c` reads as the list xs: element i lies in `size` cells, which R says. -/
structure Sl {α : Type} (w : World) (size : Nat) (R : List Value → α → Prop) (A : Option Addr) (n c : Nat) (xs : List α) : Prop where
  len : xs.length = n
  le : n ≤ c
  max : c ≤ 9223372036854775807
  get : ∀ i (h : i < xs.length), ∃ b off cs, A = some ⟨b, off, none⟩ ∧ b < w.heap.size ∧ cs.length = size ∧ R cs xs[i] ∧ ∀ j u, cs[j]? = some u → w.cell? ⟨b, off + i * size + j, none⟩ = some u

section
variable {α : Type} {w w' : World} {size n c : Nat} {R : List Value → α → Prop} {A : Option Addr} {xs : List α}
theorem Sl.below (h : Sl w size R A n c xs) (hb : Below w.heap.size w w') : Sl w' size R A n c xs :=
  ⟨h.1, h.2, h.3, fun i hi => by
    obtain ⟨b, off, cs, e, hlt, hl, hR, hc⟩ := h.4 i hi
    exact ⟨b, off, cs, e, Nat.lt_of_lt_of_le hlt hb.size, hl, hR, fun j u hu => (hb.cell hlt).trans (hc j u hu)⟩⟩
theorem Sl.nil_ : Sl w size R none 0 0 ([] : List α) := ⟨rfl, Nat.le_refl _, by omega, fun i hi => absurd hi (by simp)⟩
theorem Sl.mono {R' : List Value → α → Prop} (h : Sl w size R A n c xs) (hR : ∀ cs x, R cs x → R' cs x) : Sl w size R' A n c xs :=
  ⟨h.1, h.2, h.3, fun i hi => by
    obtain ⟨b, off, cs, e, hlt, hl, hR', hc⟩ := h.4 i hi
    exact ⟨b, off, cs, e, hlt, hl, hR _ _ hR', hc⟩⟩
end

def I64 (x : Int) : Prop := -9223372036854775808 ≤ x ∧ x ≤ 9223372036854775807
/-- an int's cell -/
def IntC (cs : List Value) (x : Int) : Prop := cs = [.int .i64 x] ∧ I64 x
/-- a list's element, 0 where there is none -/
def nth (xs : List Int) (k : Nat) : Int := xs.getD k 0
theorem nth_lt {xs : List Int} {k : Nat} (h : k < xs.length) : nth xs k = xs[k] := by simp [nth, h]

theorem Sl.int_at {w : World} {A : Option Addr} {n c k : Nat} {xs : List Int} (h : Sl w 1 IntC A n c xs) (hk : k < n) :
    ∃ b off, A = some ⟨b, off, none⟩ ∧ b < w.heap.size ∧ w.cell? ⟨b, off + k, none⟩ = some (.int .i64 (nth xs k)) ∧ -9223372036854775808 ≤ nth xs k ∧ nth xs k ≤ 9223372036854775807 := by
  obtain ⟨b, off, cs, e, hlt, hl, ⟨rfl, hr⟩, hc⟩ := h.4 k (by rw [h.len]; exact hk)
  refine ⟨b, off, e, hlt, ?_, ?_⟩
  · have := hc 0 _ rfl
    rw [nth_lt (by rw [h.len]; exact hk)]
    simpa using this
  · rw [nth_lt (by rw [h.len]; exact hk)]; exact hr

/-- a stamp's two cells -/
def StampC (cs : List Value) (x : Int × Int) : Prop := cs = [.int .i64 x.1, .int .i64 x.2] ∧ I64 x.1 ∧ I64 x.2
def nthS (xs : List (Int × Int)) (k : Nat) : Int × Int := xs.getD k (0, 0)
theorem nthS_lt {xs : List (Int × Int)} {k : Nat} (h : k < xs.length) : nthS xs k = xs[k] := by simp [nthS, h]
theorem Sl.stamp_at {w : World} {A : Option Addr} {n c k : Nat} {xs : List (Int × Int)} (h : Sl w 2 StampC A n c xs) (hk : k < n) :
    ∃ b off, A = some ⟨b, off, none⟩ ∧ b < w.heap.size ∧ w.cell? ⟨b, off + k * 2, none⟩ = some (.int .i64 (nthS xs k).1) ∧ w.cell? ⟨b, off + k * 2 + 1, none⟩ = some (.int .i64 (nthS xs k).2) ∧ I64 (nthS xs k).1 ∧ I64 (nthS xs k).2 := by
  obtain ⟨b, off, cs, e, hlt, hl, ⟨rfl, hr⟩, hc⟩ := h.4 k (by rw [h.len]; exact hk)
  refine ⟨b, off, e, hlt, ?_, ?_, ?_⟩
  · have := hc 0 _ rfl
    rw [nthS_lt (by rw [h.len]; exact hk)]
    simpa using this
  · have := hc 1 _ rfl
    rw [nthS_lt (by rw [h.len]; exact hk)]
    simpa using this
  · rw [nthS_lt (by rw [h.len]; exact hk)]; exact hr

/-- a []int's cell: the slice reads as a list -/
def RowC (w : World) (cs : List Value) (xs : List Int) : Prop := ∃ A n c, cs = [.slice A n c] ∧ Sl w 1 IntC A n c xs
theorem RowC.below {w w' : World} {cs : List Value} {xs : List Int} (h : RowC w cs xs) (hb : Below w.heap.size w w') : RowC w' cs xs := by
  obtain ⟨A, n, c, e, h⟩ := h
  exact ⟨A, n, c, e, h.below hb⟩
/-- a [][]int -/
def Rws (w : World) (A : Option Addr) (n c : Nat) (xss : List (List Int)) : Prop := Sl w 1 (RowC w) A n c xss
theorem Rws.below {w w' : World} {A : Option Addr} {n c : Nat} {xss : List (List Int)} (h : Rws w A n c xss) (hb : Below w.heap.size w w') : Rws w' A n c xss :=
  (Sl.below h hb).mono fun _ _ hr => hr.below hb
def nthR (xss : List (List Int)) (k : Nat) : List Int := xss.getD k []
theorem nthR_lt {xs : List (List Int)} {k : Nat} (h : k < xs.length) : nthR xs k = xs[k] := by simp [nthR, h]
theorem Rws.row_at {w : World} {A : Option Addr} {n c k : Nat} {xs : List (List Int)} (h : Rws w A n c xs) (hk : k < n) :
    ∃ b off A' n' c', A = some ⟨b, off, none⟩ ∧ b < w.heap.size ∧ w.cell? ⟨b, off + k, none⟩ = some (.slice A' n' c') ∧ Sl w 1 IntC A' n' c' (nthR xs k) := by
  obtain ⟨b, off, cs, e, hlt, hl, ⟨A', n', c', rfl, hr⟩, hc⟩ := h.4 k (by rw [h.len]; exact hk)
  refine ⟨b, off, A', n', c', e, hlt, ?_, ?_⟩
  · have := hc 0 _ rfl
    simpa using this
  · rw [nthR_lt (by rw [h.len]; exact hk)]; exact hr
theorem take_snocR {xs : List (List Int)} {k : Nat} (h : k < xs.length) : xs.take (k + 1) = xs.take k ++ [nthR xs k] := by
  rw [List.take_succ_eq_append_getElem h, nthR_lt h]
theorem take_snocI {xs : List Int} {k : Nat} (h : k < xs.length) : xs.take (k + 1) = xs.take k ++ [nth xs k] := by
  rw [List.take_succ_eq_append_getElem h, nth_lt h]

/-! ### What one block's writer leaves: 'w.grownBy w' (some g)': below the heap's old size only block g has turned. -/
theorem gb_refl (w : World) (r : Option Nat) : w.grownBy w r := ⟨rfl, rfl, rfl, Nat.le_refl _, fun _ _ _ => rfl⟩
theorem gb_trans {a b c : World} {r : Option Nat} (h : a.grownBy b r) (k : b.grownBy c r) : a.grownBy c r :=
  ⟨k.os.trans h.os, k.tape.trans h.tape, k.output.trans h.output, Nat.le_trans h.size k.size, fun i hi hn => (k.block i (Nat.lt_of_lt_of_le hi h.size) hn).trans (h.block i hi hn)⟩
theorem gb_drew {a w : World} {r : Option Nat} (h : a.grownBy w r) : a.grownBy w.drew r := ⟨h.os, h.tape, h.output, h.size, h.block⟩
theorem gb_drewN {a w : World} {r : Option Nat} (h : a.grownBy w r) (n : Nat) : a.grownBy (w.drewN n) r := ⟨h.os, h.tape, h.output, h.size, h.block⟩
theorem gb_alloc {a w : World} {r : Option Nat} (h : a.grownBy w r) (o : Obj) : a.grownBy (w.alloc o) r :=
  ⟨h.os, h.tape, h.output, Nat.le_trans h.size (by simp), fun i hi hne => (Below.heap_alloc w o i (Nat.lt_of_lt_of_le hi h.size)).trans (h.block i hi hne)⟩
theorem gb_setCell {a w : World} {g : Nat} (h : a.grownBy w (some g)) {p : Addr} (hp : p.block = g ∨ a.heap.size ≤ p.block) (u : Value) : a.grownBy (w.setCell p u) (some g) :=
  ⟨h.os, h.tape, h.output, by simpa [World.setCell] using h.size, fun i hi hne => (Below.heap_setCell w p u i (by
    rintro rfl
    rcases hp with hp | hp
    · exact hne (by rw [hp])
    · omega)).trans (h.block i hi hne)⟩
theorem gb_below {a w w1 : World} {r : Option Nat} (h : a.grownBy w r) (hb : Below w.heap.size w w1) : a.grownBy w1 r :=
  ⟨hb.os.trans h.os, hb.tape.trans h.tape, hb.output.trans h.output, Nat.le_trans h.size hb.size, fun i hi hn => (hb.block i (Nat.lt_of_lt_of_le hi h.size)).trans (h.block i hi hn)⟩
theorem below_gb {B g : Nat} {w0 w w' : World} (h : Below B w0 w) (hg : w.grownBy w' (some g)) (hB : B ≤ g) (hs : B ≤ w.heap.size) : Below B w0 w' := h.grown hg hs (fun k hk => by cases hk; exact hB)
theorem gb_of_below {w w1 : World} (hb : Below w.heap.size w w1) (r : Option Nat) : w.grownBy w1 r := gb_below (gb_refl w r) hb
theorem cell_lt {w : World} {g o : Nat} {v : Value} (h : w.cell? ⟨g, o, none⟩ = some v) : g < w.heap.size := by
  rcases Nat.lt_or_ge g w.heap.size with hlt | hge
  · exact hlt
  · simp [World.cell?, Array.getElem?_eq_none hge] at h
theorem cell_below {w w1 : World} (hb : Below w.heap.size w w1) {g o : Nat} {v : Value} (hg : g < w.heap.size) (h : w.cell? ⟨g, o, none⟩ = some v) : w1.cell? ⟨g, o, none⟩ = some v := (hb.cell (p := ⟨g, o, none⟩) hg).trans h
/-- The worlds that come behind W: what was there is as it was. -/
structure After (W : World) where
  wd : World
  below : Below W.heap.size W wd
instance (W : World) : Nonempty (After W) := ⟨⟨W, Below.refl _ _⟩⟩
/-- A region that draws its order, whose operations read and whose callees turn nothing that was there: one walk in the text's order. -/
theorem wp_region_after {P : Program} {id : Nat} {Q : Exit → Act → World → Prop} {a : Act} {w : World} {l : List Oper} (hm : P.follows .mixedOrders = true) (hB : Region.lexB .any l.toArray = true)
    (h : wpQuiet P l.toArray (fun w' => ∃ x : After w, w' = x.wd) (fun a' => ∀ w', (∃ x : After w, w' = x.wd) → Q .normal a' w') l a) : (Code.region id l.toArray true).wp P Q a w :=
  wp_region_quiet (C := fun w' => ∃ x : After w, w' = x.wd) hm hB ⟨⟨_, (Below.refl _ _).drew⟩, rfl⟩ (by simpa using h)
theorem after_call {P : Program} {f : FuncId} {args : Array Value} {W : World} {x : After W} {v : Value} (h : Calls P f args x.wd fun e w' => e = .returned v ∧ Below x.wd.heap.size x.wd w') :
    Calls P f args x.wd fun e w'' => e = .returned v ∧ ∃ y : After W, w'' = y.wd :=
  h.mono fun _ w' ⟨he, hb⟩ => ⟨he, ⟨w', x.below.trans (hb.mono x.below.size)⟩, rfl⟩
theorem after_same {P : Program} {f : FuncId} {args : Array Value} {W : World} {x : After W} {v : Value} (h : Calls P f args x.wd fun e w' => e = .returned v ∧ x.wd = w') :
    Calls P f args x.wd fun e w'' => e = .returned v ∧ ∃ y : After W, w'' = y.wd :=
  h.mono fun _ _ ⟨he, hb⟩ => ⟨he, x, hb.symm⟩
theorem After.cell {W : World} (x : After W) {g o : Nat} {v : Value} (h : W.cell? ⟨g, o, none⟩ = some v) : x.wd.cell? ⟨g, o, none⟩ = some v := cell_below x.below (cell_lt h) h

end Go.Proofs.Ytaglomhmnoldlaa
