/- The walk of awake: the chapter's examples. -/
import Derived.Test.YtdoghihjanlgpaaB
import Derived.Test.YtdoghihjanlgpaaE
namespace Go.Proofs.Ytdoghihjanlgpaa
open Go.RowKit

theorem Sl.of_blk {α : Type} {w : World} {size g : Nat} {t : TypeId} {cs : Array Value} {R : List Value → α → Prop} {xs : List α} (h : Blk w g t cs) (F : α → List Value) (hs : ∀ x ∈ xs, (F x).length = size) (hR : ∀ x ∈ xs, R (F x) x)
    (hc : ∀ i (hi : i < xs.length) j u, (F xs[i])[j]? = some u → cs[i * size + j]? = some u) (hmax : xs.length ≤ 9223372036854775807) : Sl w size R (some ⟨g, 0, none⟩) xs.length xs.length xs :=
  ⟨rfl, Nat.le_refl _, hmax, fun i hi => ⟨g, 0, F xs[i], rfl, h.lt, hs _ (List.getElem_mem hi), hR _ (List.getElem_mem hi), fun j u hu => by
    rw [h.cell, Nat.zero_add]; exact hc i hi j u hu⟩⟩

theorem ints_blk {w : World} {g : Nat} {t : TypeId} (xs : List Int) (hb : ∀ x ∈ xs, I64 x) (hmax : xs.length ≤ 9223372036854775807) (h : Blk w g t (xs.map (Value.int .i64)).toArray) : Sl w 1 IntC (some ⟨g, 0, none⟩) xs.length xs.length xs :=
  Sl.of_blk h (fun x => [.int .i64 x]) (fun _ _ => rfl) (fun x hx => ⟨rfl, hb x hx⟩) (fun i hi j u hu => by
    match j, hu with
    | 0, hu => simp at hu; subst hu; simp [hi]) hmax
theorem stamps_blk {w : World} {g : Nat} {t : TypeId} (xs : List (Int × Int)) (hb : ∀ x ∈ xs, I64 x.1 ∧ I64 x.2) (hmax : xs.length ≤ 9223372036854775807) (h : Blk w g t (xs.flatMap fun x => [Value.int .i64 x.1, .int .i64 x.2]).toArray) : Sl w 2 StampC (some ⟨g, 0, none⟩) xs.length xs.length xs :=
  Sl.of_blk h (fun x => [.int .i64 x.1, .int .i64 x.2]) (fun _ _ => rfl) (fun x hx => ⟨rfl, hb x hx⟩) (fun i hi j u hu => by
    rw [List.getElem?_toArray]
    clear h hb hmax
    induction xs generalizing i with
    | nil => exact absurd hi (by simp)
    | cons a l ih =>
      match i, hi with
      | 0, _ =>
        match j, hu with
        | 0, hu => simpa using hu
        | 1, hu => simpa using hu
      | i + 1, hi =>
        have := ih i (by simpa using hi) (by simpa using hu)
        rw [List.flatMap_cons, show (i + 1) * 2 + j = 2 + (i * 2 + j) by omega]
        rw [List.getElem?_append_right (by simp)]
        simpa using this) hmax
instance (x : Int) : Decidable (I64 x) := by unfold I64; infer_instance
theorem Blk.new_ {w : World} {g : Nat} {t : TypeId} {cs : Array Value} (h : g = w.heap.size) : Blk (w.alloc (.cells cs t)) g t cs := h ▸ Blk.new w t cs
theorem rows_blk2 {w : World} {g : Nat} {t : TypeId} {A1 A2 : Option Addr} {n1 c1 n2 c2 : Nat} {xs ys : List Int} (hx : Sl w 1 IntC A1 n1 c1 xs) (hy : Sl w 1 IntC A2 n2 c2 ys) (h : Blk w g t #[.slice A1 n1 c1, .slice A2 n2 c2]) : Rws w (some ⟨g, 0, none⟩) 2 2 [xs, ys] :=
  ⟨rfl, by decide, by decide, fun i hi => by
    match i, hi with
    | 0, _ => exact ⟨g, 0, [.slice A1 n1 c1], rfl, h.lt, rfl, ⟨_, _, _, rfl, hx⟩, fun j u hu => by
        match j, hu with
        | 0, hu => rw [h.cell]; simpa using hu⟩
    | 1, _ => exact ⟨g, 0, [.slice A2 n2 c2], rfl, h.lt, rfl, ⟨_, _, _, rfl, hy⟩, fun j u hu => by
        match j, hu with
        | 0, hu => rw [h.cell]; simpa using hu⟩⟩


set_option maxHeartbeats 1000000 in
theorem awake_any (w : World) : Calls Try.prog 12 #[] w fun e w' => e = .returned (.bool true) ∧ Below w.heap.size w w' := by
  go_enter Try.func12, Try.ntmps12
  go_wp2_with fail
  refine (next_any 2 _ 2 2 [(7, 0), (3, 2)] _ (stamps_blk [(7, 0), (3, 2)] (by decide) (by decide) (Blk.new _ _ _))).mono ?_
  rintro e w1 ⟨rfl, hb1⟩
  have e1 : nextV 2 [(7, 0), (3, 2)] = .tuple #[.agg #[.int .i64 8, .int .i64 2], .int .i64 0] := by rfl
  rw [e1]
  clear e1
  have hB1 : Below w.heap.size w w1 := ((Below.refl _ _).alloc (Nat.le_refl _) _).trans (hb1.mono (by simp))
  clear hb1
  go_wp2_with fail
  refine (join_any _ 2 2 [[1, 5], [2]] _ (rows_blk2 (ints_blk [1, 5] (by decide) (by decide) (((Blk.new_ (by simp)).alloc _).alloc _)) (ints_blk [2] (by decide) (by decide) ((Blk.new_ (by simp)).alloc _)) (Blk.new_ (by simp))) (by decide)).mono ?_
  rintro e w2 ⟨a, l, c', rfl, hs, hb2⟩
  have e2 : joinL [[1, 5], [2]] = [2, 5] := by decide
  rw [e2] at hs
  clear e2
  have hB2 : Below w.heap.size w w2 := by
    refine ((((hB1.alloc ?_ _).alloc ?_ _).alloc ?_ _).alloc ?_ _).trans (hb2.mono ?_)
    all_goals have := hB1.size; simp; omega
  clear hb2 hB1
  go_wp2_with fail
  refine (same_any _ _ _ [2, 5] _ 2 2 [2, 5] _ (hs.below ((Below.refl _ _).alloc (Nat.le_refl _) _)) (ints_blk [2, 5] (by decide) (by decide) (Blk.new_ rfl))).mono ?_
  rintro e w3 ⟨rfl, hb3⟩
  have e3 : sameB [2, 5] [2, 5] = true := by decide
  rw [e3]
  clear e3
  have hB3 : Below w.heap.size w w3 := by
    refine (hB2.alloc ?_ _).trans (hb3.mono ?_)
    all_goals have := hB2.size; simp; omega
  clear hb3 hB2 hs
  go_wp2_with fail
  refine (meet_any _ 2 2 [[1, 5], [2]] _ (rows_blk2 (ints_blk [1, 5] (by decide) (by decide) (((Blk.new_ (by simp)).alloc _).alloc _)) (ints_blk [2] (by decide) (by decide) ((Blk.new_ (by simp)).alloc _)) (Blk.new_ (by simp))) (by decide)).mono ?_
  rintro e w4 ⟨a4, l4, c4, rfl, hs, hb4⟩
  have e4 : meetL [[1, 5], [2]] = [1] := by decide
  rw [e4] at hs
  clear e4
  have hB4 : Below w.heap.size w w4 := by
    refine (((hB3.alloc ?_ _).alloc ?_ _).alloc ?_ _).trans (hb4.mono ?_)
    all_goals have := hB3.size; simp; omega
  clear hb4 hB3
  go_wp2_with fail
  refine (same_any _ _ _ [1] _ 1 1 [1] _ (hs.below ((Below.refl _ _).alloc (Nat.le_refl _) _)) (ints_blk [1] (by decide) (by decide) (Blk.new_ rfl))).mono ?_
  rintro e w5 ⟨rfl, hb5⟩
  have e5 : sameB [1] [1] = true := by decide
  rw [e5]
  clear e5
  have hB5 : Below w.heap.size w w5 := by
    refine (hB4.alloc ?_ _).trans (hb5.mono ?_)
    all_goals have := hB4.size; simp; omega
  clear hb5 hB4 hs
  go_wp2_with fail
  refine (covers_any _ 2 2 [2, 5] _ 3 3 [1, 0, 0] _ (ints_blk [2, 5] (by decide) (by decide) ((Blk.new_ (by simp)).alloc _)) (ints_blk [1, 0, 0] (by decide) (by decide) (Blk.new_ (by simp)))).mono ?_
  rintro e w6 ⟨rfl, rfl⟩
  have e6 : coversB [2, 5] [1, 0, 0] = true := by decide
  rw [e6]
  clear e6
  go_wp2_with fail
  go_ret
  refine ⟨rfl, (hB5.alloc ?_ _).alloc ?_ _⟩
  all_goals have := hB5.size; simp; try omega
end Go.Proofs.Ytdoghihjanlgpaa
