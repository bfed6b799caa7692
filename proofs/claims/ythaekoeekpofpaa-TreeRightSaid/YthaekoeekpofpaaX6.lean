/- A node stays; the walk of TreeStays. -/
import Derived.Test.YthaekoeekpofpaaX8
namespace Go.Proofs.Ythaekoeekpofpaa
open Go.RowKit
attribute [local go_sem] bs_size bs_getElem bs_list bs_append

/-- no stamp twice -/
def Uniq (xs : List Nd) : Prop := (xs.map Nd.id).Nodup
theorem Uniq.find {xs : List Nd} (h : Uniq xs) {z : Nd} (hz : z ∈ xs) : findN z.id xs = z ∧ hasN z.id xs = true := by
  obtain ⟨j, hj, rfl⟩ := List.mem_iff_getElem.1 hz
  have h1 : firstI (isId xs[j].id) xs = j := firstI_at hj (by simp [isId]) (fun i hi hlt => by
    unfold isId
    refine decide_eq_false (fun e => ?_)
    have := List.pairwise_iff_getElem.1 h i j (by simpa using hi) (by simpa using hj) hlt
    rw [List.getElem_map, List.getElem_map] at this
    exact this e)
  exact find_at hj h1
theorem map_id_set (xs : List Nd) (k : Nat) (z : Nd) (hk : k < xs.length) (hz : z.id = xs[k].id) : (xs.set k z).map Nd.id = xs.map Nd.id := by
  apply List.ext_getElem?
  intro i
  rw [List.getElem?_map, List.getElem?_map, List.getElem?_set]
  by_cases h : k = i
  · subst h
    simp [hk, hz]
  · simp [h]
theorem map_id_grow (xs : List Nd) (y : Nd) : (growN xs y).map Nd.id = (xs.map Nd.id).take (atN xs y.id) ++ y.id :: (xs.map Nd.id).drop (atN xs y.id) := by
  unfold growN
  simp [List.map_take, List.map_drop]
theorem nodup_insert {l : List St} {s : St} (h : l.Nodup) (hs : s ∉ l) (k : Nat) : (l.take k ++ s :: l.drop k).Nodup := by
  have hp : (l.take k ++ s :: l.drop k).Perm (s :: l) := by
    have h1 : (l.take k ++ s :: l.drop k).Perm (s :: (l.take k ++ l.drop k)) := List.perm_middle
    rwa [List.take_append_drop] at h1
  exact hp.nodup_iff.2 (List.nodup_cons.2 ⟨hs, h⟩)
/-- what a Do leaves -/
theorem doN_cases (xs : List Nd) (x : TOp) :
    (doN xs x = xs) ∨ (∃ y, y.id = x.node ∧ x.kind = 1 ∧ x.node ∉ xs.map Nd.id ∧ y = ⟨x.node, x.dir, if takesB x.par xs then x.par else (0, 1), x.nm, x.mf⟩ ∧ doN xs x = growN xs y) ∨
    (∃ k, ∃ hk : k < xs.length, xs[k].id = x.node ∧ x.kind ≠ 1 ∧ (turnP xs x xs[k]).2 = true ∧ doN xs x = xs.set k (turnP xs x xs[k]).1) := by
  rcases firstI_cases (isId x.node) xs with ⟨k, hk, hfk, hp⟩ | ⟨hfk, hall⟩
  · rw [doN_at hk hfk]
    by_cases h1 : x.kind = 1
    · exact .inl (by rw [if_pos h1])
    · rw [if_neg h1]
      by_cases h2 : (turnP xs x xs[k]).2 = true
      · exact .inr (.inr ⟨k, hk, of_decide_eq_true hp, h1, h2, by rw [if_pos h2]⟩)
      · exact .inl (by rw [if_neg h2])
  · rw [doN_no hfk]
    by_cases h1 : x.kind = 1
    · refine .inr (.inl ⟨_, rfl, h1, fun hm => ?_, rfl, by rw [if_pos h1]⟩)
      obtain ⟨z, hz, e⟩ := List.mem_map.1 hm
      have := hall z hz
      unfold isId at this
      rw [decide_eq_true e] at this
      cases this
    · exact .inl (by rw [if_neg h1])
theorem Uniq.do_ {xs : List Nd} (h : Uniq xs) (x : TOp) : Uniq (doN xs x) := by
  rcases doN_cases xs x with e | ⟨y, hy, _, hn, _, e⟩ | ⟨k, hk, hid, _, _, e⟩
  · rw [e]; exact h
  · rw [e]; unfold Uniq; rw [map_id_grow]; exact nodup_insert h (by rw [hy]; exact hn) _
  · rw [e]; unfold Uniq; rw [map_id_set _ _ _ hk (turnP_id _ _ _)]; exact h
theorem Uniq.fold_ (l : List TOp) : Uniq (foldN l) := by
  have : ∀ (l : List TOp) (xs : List Nd), Uniq xs → Uniq (l.foldl doN xs) := by
    intro l
    induction l with
    | nil => intro xs h; exact h
    | cons x l ih => intro xs h; exact ih _ (h.do_ x)
  exact this l [] (by simp [Uniq])
theorem turnP_dir (xs : List Nd) (x : TOp) (y : Nd) : (turnP xs x y).1.dir = y.dir := by
  unfold turnP
  split
  · rfl
  · split
    · rfl
    · split <;> rfl
theorem mem_grow {xs : List Nd} {y z : Nd} (h : z ∈ xs) : z ∈ growN xs y := by
  unfold growN
  rw [← List.take_append_drop (atN xs y.id) xs] at h
  rcases List.mem_append.1 h with h | h
  · exact List.mem_append_left _ h
  · exact List.mem_append_right _ (List.mem_cons_of_mem _ h)
theorem doN_stays {xs : List Nd} (h : Uniq xs) (x : TOp) :
    xs.length ≤ (doN xs x).length ∧ (doN xs x).length ≤ xs.length + 1 ∧ ∀ k (hk : k < xs.length), hasN xs[k].id (doN xs x) = true ∧ (findN xs[k].id (doN xs x)).dir = xs[k].dir ∧ (findN xs[k].id (doN xs x) = xs[k] ∨ (findN xs[k].id (doN xs x)).id = x.node) := by
  have hu := h.do_ x
  refine ⟨?_, doN_len _ _, fun k hk => ?_⟩
  · rcases doN_cases xs x with e | ⟨y, _, _, _, _, e⟩ | ⟨k, hk, _, _, _, e⟩
    · rw [e]; exact Nat.le_refl _
    · rw [e]; unfold growN; simp; omega
    · rw [e]; simp
  · have old : xs[k] ∈ doN xs x → hasN xs[k].id (doN xs x) = true ∧ (findN xs[k].id (doN xs x)).dir = xs[k].dir ∧ (findN xs[k].id (doN xs x) = xs[k] ∨ (findN xs[k].id (doN xs x)).id = x.node) := fun hm => by
      obtain ⟨h1, h2⟩ := hu.find hm
      exact ⟨h2, by rw [h1], .inl h1⟩
    rcases doN_cases xs x with e | ⟨y, _, _, _, _, e⟩ | ⟨i, hi, hid, _, _, e⟩
    · exact old (by rw [e]; exact List.getElem_mem hk)
    · exact old (by rw [e]; exact mem_grow (List.getElem_mem hk))
    · by_cases hik : i = k
      · subst hik
        have hm : (turnP xs x xs[i]).1 ∈ doN xs x := by rw [e]; exact List.mem_set hi _
        obtain ⟨h1, h2⟩ := hu.find hm
        rw [turnP_id] at h1 h2
        exact ⟨h2, by rw [h1, turnP_dir], .inr (by rw [h1, turnP_id, hid])⟩
      · refine old ?_
        rw [e, List.mem_iff_getElem]
        exact ⟨k, by rw [List.length_set]; exact hk, by rw [List.getElem_set_ne hik]⟩

theorem run_neq_nd2 {x y : Nd} (h : x ≠ y) (w : World) : (binOp .neq 37 (nv x) (nv y)).run Try.prog w = .ok (.bool true) w := by
  have h1 : ¬ (x.id.1 = y.id.1 ∧ x.id.2 = y.id.2 ∧ x.dir = y.dir ∧ x.par.1 = y.par.1 ∧ x.par.2 = y.par.2 ∧ x.nm = y.nm ∧ x.mf = y.mf) := fun ⟨a, b, c, d, e, f, g⟩ => h (by
    obtain ⟨⟨_, _⟩, _, ⟨_, _⟩, _, _⟩ := x
    obtain ⟨⟨_, _⟩, _, ⟨_, _⟩, _, _⟩ := y
    simp_all)
  unfold nv
  simp [go_sem]
  exact fun a b c d e f g => h1 ⟨a, b, c, d, e, f, g⟩

theorem run_neq_dir {y z : Nd} (h : y.dir = z.dir) (w : World) : (binOp .neq 4 (.bool y.dir) (.bool z.dir)).run Try.prog w = .ok (.bool false) w := by
  rw [h]; simp [go_sem]
theorem run_neq_st2 {a b : St} (h : a = b) (w : World) : (binOp .neq 30 (sv a) (sv b)).run Try.prog w = .ok (.bool false) w := by
  rw [h]; exact run_neq_st b w

set_option maxRecDepth 100000 in
set_option maxHeartbeats 3200000 in
theorem law_stays (A : Option Addr) (n c : Nat) (l : List TOp) (w : World) (hx : Ops w A n c l) :
    Calls Try.prog 5 #[.slice A n c] w fun e w' => e = .returned (.bool true) ∧ Below w.heap.size w w' := by
  have hn := hx.len
  have hmx := hx.max
  have hle := hx.le
  have HX := Lib.hid hx
  have HF := Lib.hid (few_is A n c l w hx)
  clear hx
  have fin : ∀ (w' : World), RowKit.Hid (Below w.heap.size w w') → Calls Try.prog 15 #[] w' (fun e w'' => e = .returned (.bool true) ∧ Below w.heap.size w w'' ∧ w'.heap.size ≤ w''.heap.size) := fun w' h => (awake_any w').mono fun e w'' hq => ⟨hq.1, h.out.trans (hq.2.mono h.out.size), hq.2.size⟩
  have HFin := Lib.hid fin
  clear fin
  cases hfb : fewB l with
  | false =>
    rw [hfb] at HF
    clear hfb
    go_enter Try.func5, Try.ntmps5
    go_wp2_with fail
    refine HF.out.mono ?_
    rintro e w2 ⟨rfl, hb2⟩
    have HB2 := Lib.hid hb2
    clear hb2
    go_wp2_with fail
    refine (HFin.out w2 HB2).mono ?_
    rintro e w3 ⟨rfl, hb3, _⟩
    have HB3 := Lib.hid hb3
    clear hb3
    go_wp2_with fail
    go_ret
    exact ⟨rfl, HB3.out⟩
  | true =>
    rw [hfb] at HF
    clear hfb
    by_cases h60 : (n : Int) > 60
    · have hd : decide ((n : Int) > 60) = true := decide_eq_true h60
      clear h60
      go_enter Try.func5, Try.ntmps5
      go_wp2_with fail
      refine HF.out.mono ?_
      rintro e w2 ⟨rfl, hb2⟩
      have HB2 := Lib.hid hb2
      clear hb2
      go_wp2_with fail
      refine (HFin.out w2 HB2).mono ?_
      rintro e w3 ⟨rfl, hb3, _⟩
      have HB3 := Lib.hid hb3
      clear hb3
      go_wp2_with fail
      go_ret
      exact ⟨rfl, HB3.out⟩
    have hd : decide ((n : Int) > 60) = false := decide_eq_false h60
    have hn60 : n ≤ 60 := by omega
    clear h60
    go_enter Try.func5, Try.ntmps5
    go_wp2_with fail
    refine HF.out.mono ?_
    rintro e w2 ⟨rfl, hb2⟩
    have HB2 := Lib.hid hb2
    clear hb2 HF
    go_wp2_with fail
    go_loopw [3, 4] (fun u i wr => ∃ k : Nat, k ≤ n ∧ i = .int .i64 k ∧ (∃ A2 n2 c2, u = .slice A2 n2 c2 ∧ Nds wr A2 n2 c2 (foldN (l.take k))) ∧ Below w.heap.size w wr) (fun _ i _ => n - (intOf i).toNat)
    case atStart => exact ⟨0, by omega, rfl, ⟨none, 0, 0, rfl, Sl.nil_⟩, HB2.out⟩
    case round =>
      obtain ⟨k, hk, rfl, ⟨A2, n2, c2, rfl, hN⟩, hb⟩ := hrel
      rcases Nat.lt_or_ge k n with hlt | hge
      · have hkl : k < l.length := by omega
        obtain ⟨b, off, rfl, hbl, c0, c1, c2', c3, c4, c5, c6, c7, c8, c9, c10, m1, m2⟩ := Ops.at_ (HX.out.below hb) hkl
        have hnext := foldN_take l k hkl
        have hlen : n2 ≤ 60 := by
          have h1 := hN.len
          have h2 := foldN_len (l.take k)
          rw [List.length_take] at h2
          omega
        have hop : OpS l[k] := ⟨m1, m2⟩
        have hu := Uniq.fold_ (l.take k)
        generalize l[k] = x at *
        generalize foldN (l.take k) = fs at *
        have hki : (k : Int) < (n : Int) := by omega
        have HD := Lib.hid (do_any x A2 n2 c2 fs _ hN hop (by omega))
        obtain ⟨s1, s2, s3⟩ := doN_stays hu x
        have hfs := hN.len
        have hmx2 := hN.max
        have hle2 := hN.le
        generalize doN fs x = ys at *
        have hd1 : decide (ys.length < n2) = false := decide_eq_false (by omega)
        have hd2 : decide ((ys.length : Int) > (n2 : Int) + 1) = false := decide_eq_false (by omega)
        have hd3 : decide (n2 + 1 < ys.length) = false := decide_eq_false (by omega)
        have HB := Lib.hid hb
        have HS := Lib.hid hb.size
        have HNx := Lib.hid hnext
        have HSt := Lib.hid s3
        have HN := Lib.hid hN
        clear hb hN hnext hop m1 m2 hkl s1 s2 s3 hu
        unfold ov at HD
        go_wp2_with fail
        refine HD.out.mono ?_
        rintro e w3 ⟨A3, c3', rfl, hN3, hb3⟩
        have HN3 := Lib.hid hN3
        have HN2 := Lib.hid (HN.out.below hb3)
        have HB3 := Lib.hid (HB.out.trans (hb3.mono HS.out))
        have hls : ys.length ≤ c3' := hN3.le
        have hms : c3' ≤ 9223372036854775807 := hN3.max
        have HC4 := Lib.hid (show w3.cell? ⟨b, off + k * 11 + 4, none⟩ = some (.int .i64 x.node.1) ∧ w3.cell? ⟨b, off + k * 11 + 5, none⟩ = some (.int .i64 x.node.2) from ⟨cell_below hb3 hbl c4, cell_below hb3 hbl c5⟩)
        clear hN3 hb3 c0 c1 c2' c3 c4 c5 c6 c7 c8 c9 c10 hbl HD
        go_wp2_with fail
        go_loopw [6] (fun j wr => ∃ m : Nat, m ≤ n2 ∧ j = .int .i64 m ∧ Below w3.heap.size w3 wr) (fun j _ => n2 - (intOf j).toNat)
        case atStart => exact ⟨0, by omega, rfl, Below.refl _ _⟩
        case round =>
          obtain ⟨m, hm, rfl, hb4⟩ := hrel
          rcases Nat.lt_or_ge m n2 with hlt2 | hge2
          · obtain ⟨b2, off2, rfl, hbl2, hcz0⟩ := Nds.at_ (HN2.out.below hb4) (by omega : m < fs.length)
            obtain ⟨h1, h2, h3⟩ := HSt.out m (by omega)
            have hx4 : wr.cell? ⟨b, off + k * 11 + 4, none⟩ = some (.int .i64 x.node.1) ∧ wr.cell? ⟨b, off + k * 11 + 5, none⟩ = some (.int .i64 x.node.2) := ⟨cell_below hb4 (cell_lt HC4.out.1) HC4.out.1, cell_below hb4 (cell_lt HC4.out.2) HC4.out.2⟩
            have hki2 : (m : Int) < (n2 : Int) := by omega
            generalize fs[m] = z at *
            have hcz := (show wr.cell? ⟨b2, off2 + m * 7, none⟩ = some (.int .i64 z.id.1) ∧ wr.cell? ⟨b2, off2 + m * 7 + 1, none⟩ = some (.int .i64 z.id.2) ∧ wr.cell? ⟨b2, off2 + m * 7 + 2, none⟩ = some (.bool z.dir) ∧ wr.cell? ⟨b2, off2 + m * 7 + 3, none⟩ = some (.int .i64 z.par.1) ∧ wr.cell? ⟨b2, off2 + m * 7 + 4, none⟩ = some (.int .i64 z.par.2) ∧ wr.cell? ⟨b2, off2 + m * 7 + 5, none⟩ = some (.string (bs z.nm)) ∧ wr.cell? ⟨b2, off2 + m * 7 + 6, none⟩ = some (.string (bs z.mf)) from ⟨hcz0.1, hcz0.2.1, hcz0.2.2.1, hcz0.2.2.2.1, hcz0.2.2.2.2.1, hcz0.2.2.2.2.2.1, hcz0.2.2.2.2.2.2.1⟩)
            have hh : hasN z.id ys = true := h1
            clear h1
            by_cases hyz : findN z.id ys = z
            ·
              have HFd := Lib.hid (find_any z.id A3 ys.length c3' ys wr (HN3.out.below hb4))
              rw [hh, hyz] at HFd
              obtain ⟨c0, c1, c2', c3, c4, c5, c6⟩ := hcz
              have HZ := Lib.hid (fun (w' : World) (hb : Below wr.heap.size wr w') => (show w'.cell? ⟨b2, off2 + m * 7, none⟩ = some (.int .i64 z.id.1) ∧ w'.cell? ⟨b2, off2 + m * 7 + 1, none⟩ = some (.int .i64 z.id.2) ∧ w'.cell? ⟨b2, off2 + m * 7 + 2, none⟩ = some (.bool z.dir) ∧ w'.cell? ⟨b2, off2 + m * 7 + 3, none⟩ = some (.int .i64 z.par.1) ∧ w'.cell? ⟨b2, off2 + m * 7 + 4, none⟩ = some (.int .i64 z.par.2) ∧ w'.cell? ⟨b2, off2 + m * 7 + 5, none⟩ = some (.string (bs z.nm)) ∧ w'.cell? ⟨b2, off2 + m * 7 + 6, none⟩ = some (.string (bs z.mf)) from ⟨cell_below hb hbl2 c0, cell_below hb hbl2 c1, cell_below hb hbl2 c2', cell_below hb hbl2 c3, cell_below hb hbl2 c4, cell_below hb hbl2 c5, cell_below hb hbl2 c6⟩))
              have HX4 := Lib.hid (fun (w' : World) (hb : Below wr.heap.size wr w') => (show w'.cell? ⟨b, off + k * 11 + 4, none⟩ = some (.int .i64 x.node.1) ∧ w'.cell? ⟨b, off + k * 11 + 5, none⟩ = some (.int .i64 x.node.2) from ⟨cell_below hb (cell_lt hx4.1) hx4.1, cell_below hb (cell_lt hx4.2) hx4.2⟩))
              have HB4 := Lib.hid hb4
              have HS4 := Lib.hid hb4.size
              clear hyz h2 h3
              unfold sv nv at HFd
              clear hb4 hh hx4 hbl2 hcz0
              go_wp2_with fail
              refine HFd.out.mono ?_
              rintro e w4 ⟨rfl, hb5⟩
              have hN1 := Blk.new w4 37 (nc z).toArray
              have hb6 := hb5.alloc hb5.size (.cells (nc z).toArray 37)
              obtain ⟨w5, hw5⟩ : ∃ w5, w5 = w4.alloc (.cells #[.int .i64 z.id.1, .int .i64 z.id.2, .bool z.dir, .int .i64 z.par.1, .int .i64 z.par.2, .string (bs z.nm), .string (bs z.mf)] 37) := ⟨_, rfl⟩
              obtain ⟨p1, hp1⟩ : ∃ p1, p1 = w4.heap.size := ⟨_, rfl⟩
              have hN1 : Blk w5 p1 37 (nc z).toArray := by rw [hw5, hp1]; exact hN1
              have hb6 : Below wr.heap.size wr w5 := by rw [hw5]; exact hb6
              have HW5 := Lib.hid hw5
              have HP1 := Lib.hid hp1
              have HB6 := Lib.hid (HB4.out.trans (hb6.mono HS4.out))
              clear c0 c1 c2' c3 c4 c5 c6
              obtain ⟨c0, c1, c2', c3, c4, c5, c6⟩ := HZ.out w5 hb6
              obtain ⟨d0, d1, d2, d3, d4, d5, d6⟩ := blk7 hN1
              obtain ⟨g4, g5⟩ := HX4.out w5 hb6
              clear hb5 hb6 hN1 hw5 hp1
              go_upto_region 14 with (fail)
              rw [← HW5.out, ← HP1.out]
              have he := run_neq_nd z
              unfold nv at he
              go_quiet (fail)
              have hb7 := Lib.hid (below_drewN HB6.out nq)
              go_wp2_with fail
              exact ⟨⟨m + 1, by omega, by go_num, hb7.out⟩, by simp [intOf]; omega⟩
            ·
              generalize hyy : findN z.id ys = y at *
              have HFd := Lib.hid (find_any z.id A3 ys.length c3' ys wr (HN3.out.below hb4))
              rw [hh, hyy] at HFd
              obtain ⟨c0, c1, c2', c3, c4, c5, c6⟩ := hcz
              have HZ := Lib.hid (fun (w' : World) (hb : Below wr.heap.size wr w') => (show w'.cell? ⟨b2, off2 + m * 7, none⟩ = some (.int .i64 z.id.1) ∧ w'.cell? ⟨b2, off2 + m * 7 + 1, none⟩ = some (.int .i64 z.id.2) ∧ w'.cell? ⟨b2, off2 + m * 7 + 2, none⟩ = some (.bool z.dir) ∧ w'.cell? ⟨b2, off2 + m * 7 + 3, none⟩ = some (.int .i64 z.par.1) ∧ w'.cell? ⟨b2, off2 + m * 7 + 4, none⟩ = some (.int .i64 z.par.2) ∧ w'.cell? ⟨b2, off2 + m * 7 + 5, none⟩ = some (.string (bs z.nm)) ∧ w'.cell? ⟨b2, off2 + m * 7 + 6, none⟩ = some (.string (bs z.mf)) from ⟨cell_below hb hbl2 c0, cell_below hb hbl2 c1, cell_below hb hbl2 c2', cell_below hb hbl2 c3, cell_below hb hbl2 c4, cell_below hb hbl2 c5, cell_below hb hbl2 c6⟩))
              have HX4 := Lib.hid (fun (w' : World) (hb : Below wr.heap.size wr w') => (show w'.cell? ⟨b, off + k * 11 + 4, none⟩ = some (.int .i64 x.node.1) ∧ w'.cell? ⟨b, off + k * 11 + 5, none⟩ = some (.int .i64 x.node.2) from ⟨cell_below hb (cell_lt hx4.1) hx4.1, cell_below hb (cell_lt hx4.2) hx4.2⟩))
              have HB4 := Lib.hid hb4
              have HS4 := Lib.hid hb4.size
              have hid : y.id = x.node := by rcases h3 with h3 | h3; exact absurd h3 hyz; exact h3
              have HYZ := Lib.hid hyz
              have HId := Lib.hid hid
              have HDr := Lib.hid h2
              clear hid hyz h3 h2 hyy
              unfold sv nv at HFd
              clear hb4 hh hx4 hbl2 hcz0
              go_wp2_with fail
              refine HFd.out.mono ?_
              rintro e w4 ⟨rfl, hb5⟩
              have hN1 := Blk.new w4 37 (nc y).toArray
              have hb6 := hb5.alloc hb5.size (.cells (nc y).toArray 37)
              obtain ⟨w5, hw5⟩ : ∃ w5, w5 = w4.alloc (.cells #[.int .i64 y.id.1, .int .i64 y.id.2, .bool y.dir, .int .i64 y.par.1, .int .i64 y.par.2, .string (bs y.nm), .string (bs y.mf)] 37) := ⟨_, rfl⟩
              obtain ⟨p1, hp1⟩ : ∃ p1, p1 = w4.heap.size := ⟨_, rfl⟩
              have hN1 : Blk w5 p1 37 (nc y).toArray := by rw [hw5, hp1]; exact hN1
              have hb6 : Below wr.heap.size wr w5 := by rw [hw5]; exact hb6
              have HW5 := Lib.hid hw5
              have HP1 := Lib.hid hp1
              have HB6 := Lib.hid (HB4.out.trans (hb6.mono HS4.out))
              clear c0 c1 c2' c3 c4 c5 c6
              obtain ⟨c0, c1, c2', c3, c4, c5, c6⟩ := HZ.out w5 hb6
              obtain ⟨d0, d1, d2, d3, d4, d5, d6⟩ := blk7 hN1
              obtain ⟨g4, g5⟩ := HX4.out w5 hb6
              clear hb5 hb6 hN1 hw5 hp1
              go_upto_region 14 with (fail)
              rw [← HW5.out, ← HP1.out]
              have he := run_neq_nd2 HYZ.out
              unfold nv at he
              have hed := fun w => run_neq_dir HDr.out w
              have hes := fun w => run_neq_st2 HId.out w
              unfold sv at hes
              go_quiet (fail)
              have hb7 := Lib.hid (below_drewN HB6.out nq)
              go_wp2_with fail
              exact ⟨⟨m + 1, by omega, by go_num, hb7.out⟩, by simp [intOf]; omega⟩
          · have hkn2 : ¬ (m : Int) < (n2 : Int) := by omega
            have HB5 := Lib.hid (HB3.out.trans (hb4.mono HB3.out.size))
            have HN5 := Lib.hid (HN3.out.below hb4)
            clear hb4
            go_wp2_with fail
            exact ⟨⟨k + 1, by omega, by go_num, ⟨_, _, _, rfl, by rw [HNx.out]; exact HN5.out⟩, HB5.out⟩, by simp [intOf]; omega⟩
      · have hkn : ¬ (k : Int) < (n : Int) := by omega
        have HB := Lib.hid hb
        clear hb hN
        go_wp2_with fail
        refine (HFin.out wr HB).mono ?_
        rintro e w3 ⟨rfl, hb3, _⟩
        have HB3 := Lib.hid hb3
        clear hb3
        go_wp2_with fail
        go_ret
        exact ⟨rfl, HB3.out⟩
end Go.Proofs.Ythaekoeekpofpaa
