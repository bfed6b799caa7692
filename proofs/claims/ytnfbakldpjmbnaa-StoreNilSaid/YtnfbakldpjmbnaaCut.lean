/- chunk.Cut: the pieces of bytes. -/
import Derived.Test.YtnfbakldpjmbnaaIt
namespace Go.Proofs.Ytnfbakldpjmbnaa
open Go.RowKit Go.Shelf
attribute [local go_sem] Oper.semAt_some

/-- piece k -/
def piece (d : List UInt8) (k : Nat) : List UInt8 := (d.drop (256 * k)).take 256
def cutL (d : List UInt8) : List (List UInt8) := (List.range (pieces d.length)).map (piece d)
/-- strings' cells -/
def strs (l : List (List UInt8)) : List Value := l.map fun s => Value.string (bs s)
theorem strs_append (a b : List (List UInt8)) : strs (a ++ b) = strs a ++ strs b := by simp [strs]
theorem strs_len (l : List (List UInt8)) : (strs l).length = l.length := by simp [strs]

theorem info9 : (Try.prog.info? 9).map (fun i => (i.zero, i.size, i.bytes)) = some (some (.string ⟨#[]⟩), 1, 16) := by kernel_rfl

/-- '[]byte(s)', its run -/
theorem bytes_run (w : World) (l : List UInt8) (hl : l.length ≤ maxLen) : ∃ cap w', (convert 9 62 (.string (bs l))).run Try.prog w = .ok (.slice (some ⟨w.heap.size, 0, none⟩) l.length cap) w' ∧
    OwnC w' w.heap.size 1 (.slice (some ⟨w.heap.size, 0, none⟩) l.length cap) l.length (bv l) ∧ Below w.heap.size w w' ∧ w'.heap.size = w.heap.size + 1 := by
  have hr := run_bytes_of_string (P := Try.prog) w 9 62 5 (bs l) Try.underlying9 Try.underlying62 Try.underlying5
  rw [bs_size] at hr
  have hge := grownCap_ge w l.length 0 5
  have hle := grownCap_le_maxLen w l.length 0 5 hl
  exact ⟨_, _, hr, own_bytes w.drew 5 l _ hge hle, ((Below.refl _ w).drew).alloc (Nat.le_refl _) _, by simp [World.alloc]⟩

/-- the string of a piece -/
theorem piece_run {W : World} {g : Nat} {d : List UInt8} (hc : ∀ j u, (bv d)[j]? = some u → W.cell? ⟨g, j, none⟩ = some u) (k : Nat) :
    (convert 62 9 (pcv g d.length k)).run Try.prog W = .ok (.string (bs (piece d k))) W := by
  unfold pcv
  by_cases h : 256 * k < d.length
  · rw [if_pos h]
    have hl : (piece d k).length = min 256 (d.length - 256 * k) := by simp [piece]
    have := run_convert_bytes_back (P := Try.prog) W 62 9 5 ⟨g, 256 * k, none⟩ (min 256 (d.length - 256 * k)) (piece d k) Try.underlying62 Try.underlying5 Try.underlying9 (fun j hj => by
      have e : (Addr.mk g (256 * k) none).add j = ⟨g, 256 * k + j, none⟩ := by unfold Addr.add; split <;> simp_all
      rw [e]
      refine hc _ _ ?_
      have hj2 : 256 * k + j < d.length := by rw [hl] at hj; omega
      simp [bv, piece, List.getElem?_eq_getElem hj2])
    rw [hl] at this
    exact this
  · rw [if_neg h]
    have hp : piece d k = [] := by unfold piece; rw [List.drop_of_length_le (by omega)]; rfl
    rw [hp]
    have := run_convert_bytes_string (P := Try.prog) W 62 9 5 none 0 0 Try.underlying62 Try.underlying5 Try.underlying9
    rw [this]
    simp [go_sem, bs]
    rfl

theorem row_mono {w : World} {B B' : Nat} {e : TypeId} {size : Nat} {v : Value} {n : Nat} {xs : List Value} (h : w.ownsRow B e size v n xs) (hB : B' ≤ B) : w.ownsRow B' e size v n xs := by
  refine ⟨h.1, ?_⟩
  rcases h.2 with hn | ⟨g, cap, cur, rfl, hb, r⟩
  · exact .inl hn
  · exact .inr ⟨g, cap, cur, rfl, Nat.le_trans hB hb, r⟩
theorem row_ge {w : World} {B : Nat} {e : TypeId} {size : Nat} {v : Value} {n : Nat} {xs : List Value} (h : w.ownsRow B e size v n xs) : ∀ k, v.ownBlock = some k → B ≤ k := by
  intro k hk
  rcases h.2 with ⟨rfl, _⟩ | ⟨g, cap, cur, rfl, hb, _⟩
  · simp [Value.ownBlock] at hk
  · simp [Value.ownBlock] at hk; subst hk; exact hb
/-- a block that the append and the store of a round leave alone -/
theorem kept_block {W w1 : World} {M B b : Nat} {v v' : Value} {tmp : Obj} {e : TypeId} {size n : Nat} {xs : List Value} (hrow : W.ownsRow M e size v n xs) (hgrow : (W.alloc tmp).grownBy w1 v.ownBlock) (hb : b < M) (hlt : b < W.heap.size) (hne : b ≠ B) : (w1.setCell ⟨B, 0, none⟩ v').heap[b]? = W.heap[b]? := by
  refine (Below.heap_setCell w1 ⟨B, 0, none⟩ v' b hne).trans ?_
  refine (hgrow.block b (by simp; omega) (fun e => ?_)).trans (Below.heap_alloc W tmp b hlt)
  have := row_ge hrow b e.symm
  omega
theorem ownFrom_block {β : Type} {B b : Nat} {o : Option Obj} (hb : b < B) (hs : ∀ (W : World), W.heap[b]? = o → b < W.heap.size) : OwnFrom B (fun (_ : β) W => W.heap[b]? = o) :=
  fun _ W W' row h hg hr => (hg.block b (hs W h) (fun e => by have := (hr b e.symm).1; omega)).trans h

set_option maxRecDepth 100000 in
set_option maxHeartbeats 2000000 in
theorem cut_in (F : Fence) (n : Nat) (h12 : F.fn 31) (h24 : F.fn 37) (h33 : F.fn 43) (hro : F.round = none) (hn : 3 ≤ n) (d : List UInt8) (hd : d.length ≤ 1000000) (w : World) :
    CallsIn F n Try.prog 31 #[.string (bs d)] w fun e w' => ∃ v, e = .returned v ∧ w'.ownsRow w.heap.size 9 1 v (cutL d).length (strs (cutL d)) ∧ Below w.heap.size w w' := by
  have h1 : 1 ≤ n := by omega
  obtain ⟨i0, hi, hz0, hz1, hz2⟩ := info_parts info9
  refine callsIn_of_wp_marks Try.func31 rfl h12 ?_ hro
  simp only [Try.ntmps31, List.size_toArray, List.length_cons, List.length_nil, Nat.reduceAdd, Nat.reduceSub, Array.replicate_succ, Array.replicate_zero, List.push_toArray, List.append_toArray, List.nil_append, List.cons_append]
  have bO := Boxed.new w 26 (.slice none 0 0)
  have hB1 : Below w.heap.size w (w.alloc (.cells #[.slice none 0 0] 26)) := (Below.refl _ w).alloc (Nat.le_refl _) _
  obtain ⟨capd, w2, hr, ho2, hb2, hs2⟩ := bytes_run (w.alloc (.cells #[.slice none 0 0] 26)) d (by unfold maxLen; omega)
  rw [World.size_alloc] at hr ho2 hb2 hs2
  have HO2 := Lib.hid ho2
  have HB2 := Lib.hid hb2
  have HS2 := Lib.hid hs2
  have HBO := Lib.hid bO
  have HB1 := Lib.hid hB1
  clear ho2 hb2 hs2 bO hB1
  gi_wp2_with (gi_at_call 37; refine (chunkmk_in F (n - 1) h24 hro _ _ _ _).mono ?_; rintro e w' ⟨rfl, rfl⟩)
  have hB4 : Below w.heap.size w ((w2.alloc (.cells #[.slice (some ⟨w.heap.size + 1, 0, none⟩) d.length capd] 62)).alloc (.cells #[.int .i64 256] 3)) :=
    ((HB1.out.trans (HB2.out.mono (Nat.le_succ _))).alloc (by have := HS2.out; omega) _).alloc (by have := HS2.out; simp; omega) _
  have bS := Boxed.alloc (Boxed.new w2 62 (.slice (some ⟨w.heap.size + 1, 0, none⟩) d.length capd)) (.cells #[.int .i64 256] 3)
  have bN := Boxed.new (w2.alloc (.cells #[.slice (some ⟨w.heap.size + 1, 0, none⟩) d.length capd] 62)) 3 (.int .i64 256)
  rw [World.size_alloc] at bN
  have bO4 : Boxed ((w2.alloc (.cells #[.slice (some ⟨w.heap.size + 1, 0, none⟩) d.length capd] 62)).alloc (.cells #[.int .i64 256] 3)) w.heap.size 26 (.slice none 0 0) := by
    refine Boxed.alloc (Boxed.alloc ?_ _) _
    exact (HB2.out.block _ (by omega)).trans HBO.out
  have ho4 := OwnC.alloc (OwnC.alloc HO2.out (.cells #[.slice (some ⟨w.heap.size + 1, 0, none⟩) d.length capd] 62)) (.cells #[.int .i64 256] 3)
  have hsz : ((w2.alloc (.cells #[.slice (some ⟨w.heap.size + 1, 0, none⟩) d.length capd] 62)).alloc (.cells #[.int .i64 256] 3)).heap.size = w.heap.size + 4 := by have := HS2.out; simp; omega
  have hs2 := HS2.out
  obtain ⟨w4, hw4⟩ : ∃ w4, w4 = (w2.alloc (.cells #[.slice (some ⟨w.heap.size + 1, 0, none⟩) d.length capd] 62)).alloc (.cells #[.int .i64 256] 3) := ⟨_, rfl⟩
  rw [hs2] at bS bN ⊢
  rw [← hw4] at hB4 bS bN bO4 ho4 hsz ⊢
  clear hw4 hr HO2 HB2 HS2 HBO HB1 hs2
  have hcap : d.length ≤ capd ∧ capd ≤ 9223372036854775807 ∧ (∀ j u, (bv d)[j]? = some u → w4.cell? ⟨w.heap.size + 1, j, none⟩ = some u) := by
    rcases ho4.2 with ⟨h, _⟩ | ⟨g, cap, h, _, _, h1, h2, _, _, h3⟩
    · cases h
    · simp only [Value.slice.injEq, Option.some.injEq, Addr.mk.injEq, true_and, and_true] at h
      obtain ⟨rfl, rfl⟩ := h
      exact ⟨h1, by unfold maxLen at h2; exact h2, h3⟩
  obtain ⟨hc1, hc2, hc3⟩ := hcap
  refine wpIn_rangeFunc_ownG hro h1 (gf := 43) (lb := #[.pointer (some ⟨w.heap.size + 1 + 1, 0, none⟩), .pointer (some ⟨w.heap.size + 1 + 1 + 1, 0, none⟩)]) rfl h33 (enters_of Try.func43 (by kernel_rfl) rfl)
    (chunk_stops F (n - 1) h33 hro (by omega) (w.heap.size + 1 + 1) (w.heap.size + 1 + 1 + 1) (w.heap.size + 1) d.length capd _ (fun _ => rfl) hc1 hd hc2 w4 (by omega) (by omega) bS.cell bN.cell) Kept.trans (Kept.book (by omega) (by omega)) (Below.refl _ _) (fun _ => rfl)
    (fun (pre : List Nat) W => ((∃ v, Boxed W w.heap.size 26 v ∧ W.ownsRow w4.heap.size 9 1 v pre.length (strs (pre.map (piece d))) ∧ True) ∧ Below w.heap.size w W) ∧ W.heap[w.heap.size + 1]? = w4.heap[w.heap.size + 1]? ∧ w4.heap.size ≤ W.heap.size)
    (fun _ _ _ => False)
    (OwnFrom.and (OwnFrom.and (Own.from (holdsRow_own w4.heap.size w.heap.size 26 9 1 (fun pre : List Nat => pre.length) (fun pre => strs (pre.map (piece d))) (fun _ _ => True)) _) (ownFrom_below (Nat.le_refl _) (by omega))) (OwnFrom.and (ownFrom_block (by omega) (fun W h => by
      rcases Nat.lt_or_ge (w.heap.size + 1) W.heap.size with hlt | hge
      · exact hlt
      · rw [Array.getElem?_eq_none hge, Array.getElem?_eq_getElem (by omega)] at h; cases h)) (fun _ _ _ _ h hg _ => Nat.le_trans h hg.size)))
    (fun _ _ _ _ _ hs _ _ => hs)
    ⟨⟨⟨_, bO4, World.ownsRow_nil _ _ _ _, trivial⟩, hB4⟩, rfl, Nat.le_refl _⟩
    (fun k => { tmps := #[.string (bs d), undef, .slice none 0 0, .pointer (some ⟨w.heap.size, 0, none⟩), pcv (w.heap.size + 1) d.length k, .string (bs d), .slice (some ⟨w.heap.size + 1, 0, none⟩) d.length capd, .func (.func 43) #[] #[.pointer (some ⟨w.heap.size + 1 + 1, 0, none⟩), .pointer (some ⟨w.heap.size + 1 + 1 + 1, 0, none⟩)], pcv (w.heap.size + 1) d.length k, undef, undef, undef, undef, undef, undef], defers := [] }) ?assign ?body ?done ?stop
  case assign =>
    intro l x W K hK
    gi_wp2
    exact hK
  case body =>
    rintro l pre x W ⟨⟨⟨v, hv, hrow, _⟩, hB⟩, hg, hge⟩ hlt
    have hc := hv.cell
    have hcv := piece_run (W := W) (g := w.heap.size + 1) (d := d) (fun j u hu => (World.cell?_of_block (a := ⟨w.heap.size + 1, j, none⟩) hg).trans (hc3 j u hu)) x
    generalize pcv (w.heap.size + 1) d.length x = pv at *
    have hpl : pieces d.length ≤ 4000 := by unfold pieces; omega
    gi_wp2_with (gi_at_builtin; refine wpListIn_append_own _ rfl _ _ 26 rfl w4.heap.size 9 i0 (.string ⟨#[]⟩) 1 16 Try.underlying26 hi hz0 hz1 hz2 rfl (by decide) _ _ _ rfl (hrow.alloc _) ⟨W.heap.size, 0, none⟩ 1 1 [.string (bs (piece d x))] rfl rfl (cell_one_new _ _ _) (by simp [Value.oneCell']) (by unfold maxLen; omega) (by omega) (by simp; omega) ?_; intro v' w1 hown' hgrow _; obtain ⟨g', cap', rfl⟩ := ownsRow_succ hown'; obtain ⟨hv1, hv2, hr2, hk2, hb2⟩ := hv.appended (by decide) (row_mono hrow (B' := w.heap.size) (by omega)) hB.size (Nat.le_refl _) (row_mono hown' (B' := w.heap.size) (by omega)) hgrow; have hc1 := hv1.cell; have hf1 := hv1.frozen)
    refine ⟨hk2.from _, ⟨kept_block hrow hgrow (by omega) (by omega) (by omega), kept_block hrow hgrow (by omega) (by omega) (by omega)⟩, ⟨⟨_, hv2, ?_, trivial⟩, hB.trans hb2⟩, (kept_block hrow hgrow (by omega) (by omega) (by omega)).trans hg, Nat.le_trans hge hk2.size⟩
    have hrow2 := hown'.kept (grownBy_setCell' w1 w.heap.size (.slice (some ⟨g', 0, none⟩) (pre.length + 1) cap')) (.inr (hv1.not_row (by decide) hown').symm)
    rw [List.map_append, strs_append, List.length_append]
    exact hrow2
  case done =>
    rintro D ys W hD rfl ⟨⟨⟨v, hv, hrow, _⟩, hB⟩, _⟩ hK
    have hc := hv.cell
    gi_wp2
    refine ⟨by simp, .inl ⟨_, _, rfl, run_takeDeferred hK, ?_⟩⟩
    refine ⟨_, results_tmp rfl _ _ _, v, rfl, ?_, hB.trans (belowK_b (w := w) (Nat.le_refl _) W D _ _ (by omega) hK rfl rfl)⟩
    have := row_mono (ownsRow_putObj hrow (.deferred none) hK rfl) (B' := w.heap.size) (by omega)
    rw [List.length_range] at this
    unfold cutL
    rw [List.length_map, List.length_range]
    exact this
  case stop =>
    rintro D c pre W _ _ h _
    exact h.elim

theorem cut_any (d : List UInt8) (hd : d.length ≤ 1000000) (w : World) :
    Calls Try.prog 31 #[.string (bs d)] w fun e w' => ∃ v, e = .returned v ∧ w'.ownsRow w.heap.size 9 1 v (cutL d).length (strs (cutL d)) ∧ Below w.heap.size w w' :=
  (callsIn_wide (n := 5)).1 (cut_in Fence.wide 5 trivial trivial trivial rfl (by omega) d hd w)
end Go.Proofs.Ytnfbakldpjmbnaa
