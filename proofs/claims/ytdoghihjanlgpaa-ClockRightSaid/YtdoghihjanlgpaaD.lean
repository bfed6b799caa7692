/- The walks of made, Join, Meet. -/
import Derived.Test.YtdoghihjanlgpaaC
namespace Go.Proofs.Ytdoghihjanlgpaa
open Go.RowKit

def joinN (xss : List (List Int)) (k : Nat) : Int := xss.foldl (fun m x => max m (atL x k)) 0
theorem joinN_snoc (xs : List (List Int)) (x : List Int) (k : Nat) : joinN (xs ++ [x]) k = max (joinN xs k) (atL x k) := by simp [joinN]
def zeros (m : Nat) : Array Value := madeCells #[.int .i64 0] m
theorem zeros_size (m : Nat) : (zeros m).size = m := size_madeCells _ _
theorem info3 : (Try.prog.info? 3).map (fun i => (i.zero, i.size, i.bytes)) = some (some (.int .i64 0), 1, 8) := by kernel_rfl
theorem make_ints (m : Nat) (hm : m ≤ 1000000) (w : World) : (Instr.makeSlice 34 (.int .i64 (m : Int)) (.int .i64 (m : Int))).run Try.prog w = .ok (.slice (some ⟨w.heap.size, 0, none⟩) m m) (w.alloc (.cells (zeros m) 3)) := by
  obtain ⟨i0, hi, hz0, hz1, hz2⟩ := info_parts info3
  have h := run_make (P := Try.prog) w 34 3 i0 (.int .i64 0) Try.underlying34 hi hz0 .i64 .i64 (m : Int) (m : Int) (by omega) (by omega) (by rw [hz2]; omega) (by omega)
  rw [h, hz1]
  simp [zeros, Value.cells]

def cutL (xs : List Int) : List Int := (xs.reverse.dropWhile (· == 0)).reverse
theorem cutL_take (xs : List Int) (l : Nat) (hl : l ≤ xs.length) (h0 : ∀ j, l ≤ j → j < xs.length → nth xs j = 0) (h1 : l = 0 ∨ nth xs (l - 1) ≠ 0) : cutL xs = xs.take l := by
  have e : xs = xs.take l ++ xs.drop l := (List.take_append_drop l xs).symm
  have hz : ∀ x ∈ xs.drop l, (x == 0) = true := by
    intro x hx
    obtain ⟨j, hj, rfl⟩ := List.getElem_of_mem hx
    rw [List.getElem_drop]
    rw [List.length_drop] at hj
    have := h0 (l + j) (by omega) (by omega)
    rw [nth_lt (by omega)] at this
    simp [this]
  unfold cutL
  conv => lhs; rw [e]
  rw [List.reverse_append, List.dropWhile_append_of_pos (by intro x hx; exact hz x (by simpa using hx))]
  rcases h1 with rfl | h1
  · simp
  · rcases Nat.eq_zero_or_pos l with rfl | hp
    · simp
    · have hlen : (xs.take l).length = l := by rw [List.length_take]; omega
      have e2 : xs.take l = xs.take (l - 1) ++ [nth xs (l - 1)] := by
        have := take_snocI (xs := xs) (k := l - 1) (by omega)
        rw [show l - 1 + 1 = l by omega] at this
        exact this
      rw [e2, List.reverse_append]
      simp [List.dropWhile_cons, h1]

def row (f : Nat → Int) (m : Nat) : List Int := (List.range m).map f
theorem row_length (f : Nat → Int) (m : Nat) : (row f m).length = m := by simp [row]
theorem nth_row (f : Nat → Int) {m j : Nat} (h : j < m) : nth (row f m) j = f j := by
  rw [nth_lt (by rw [row_length]; exact h)]; simp [row]

set_option maxHeartbeats 400000 in
theorem join1_any (g : Nat) (k : Nat) (A : Option Addr) (n c : Nat) (xs : List (List Int)) (w : World) (hg : w.cell? ⟨g, 0, none⟩ = some (.slice A n c)) (hx : Rws w A n c xs) (hk : k ≤ 9223372036854775807) :
    Calls Try.prog 29 #[.int .i64 k, .pointer (some ⟨g, 0, none⟩)] w fun e w' => e = .returned (.int .i64 (joinN xs k)) ∧ w = w' := by
  have hcap := And.intro hx.le hx.max
  have HL := Lib.hid hx.len
  go_enter Try.func29, Try.ntmps29
  go_wp2
  go_loop [4, 6, 9] (fun m _ i => ∃ j : Nat, j ≤ n ∧ i = .int .i64 j ∧ m = .int .i64 (joinN (xs.take j) k)) (fun _ _ i => n - (intOf i).toNat)
  case atStart => exact ⟨0, Nat.zero_le _, rfl, rfl⟩
  case round =>
    obtain ⟨j, hj, rfl, rfl⟩ := hrel
    by_cases hlt : j < n
    · obtain ⟨b, off, A', n', c', rfl, had, hc1, hr⟩ := hx.row_at hlt
      have hcap' := And.intro hr.le hr.max
      have HS := Lib.hid (take_snocR (xs := xs) (k := j) (by rw [HL.out]; exact hlt))
      go_wp2_with fail
      refine (at_any _ _ _ k (nthR xs j) _ hr (by omega)).mono ?_
      rintro e w' ⟨rfl, rfl⟩
      go_wp2_with fail
      all_goals
        go_round
        case rel => exact ⟨j + 1, by omega, by go_num, by rw [HS.out, joinN_snoc]; exact congrArg (Value.int .i64) (by omega)⟩
        case measure => simp [intOf]; omega
    · obtain rfl : j = n := by omega
      have e : xs.take j = xs := List.take_of_length_le (by rw [HL.out]; exact Nat.le_refl _)
      rw [e]
      clear e
      go_wp2
      go_ret
      exact ⟨rfl, rfl⟩

--BEGIN-JOIN
set_option maxHeartbeats 1000000 in
theorem made_join (g : Nat) (m : Nat) (hm : m ≤ 1000000) (A : Option Addr) (n c : Nat) (xs : List (List Int)) (w : World) (hg : w.cell? ⟨g, 0, none⟩ = some (.slice A n c)) (hgl : g < w.heap.size) (hx : Rws w A n c xs)
    (hr : ∀ k, I64 (joinN xs k)) :
    Calls Try.prog 27 #[.int .i64 m, .func (.func 29) #[] #[.pointer (some ⟨g, 0, none⟩)]] w fun e w' => ∃ a l c', e = .returned (.slice a l c') ∧ Sl w' 1 IntC a l c' (cutL (row (joinN xs) m)) ∧ Below w.heap.size w w' := by
  have hmk := make_ints m hm
  go_enter Try.func27, Try.ntmps27
  go_wp2
  clear hmk
  go_loopw [6, 11] (fun _ i wr => ∃ k : Nat, k ≤ m ∧ i = .int .i64 k ∧ Below w.heap.size w wr ∧ ∃ cs, Blk wr w.heap.size 3 cs ∧ cs.size = m ∧ ∀ j, j < k → cs[j]? = some (.int .i64 (joinN xs j))) (fun _ i _ => m - (intOf i).toNat)
  case atStart => exact ⟨0, Nat.zero_le _, rfl, (Below.refl _ _).alloc (Nat.le_refl _) _, _, Blk.new _ _ _, zeros_size m, fun j hj => absurd hj (by omega)⟩
  case round =>
    obtain ⟨k, hk, rfl, hb, cs, hB, hcs, hall⟩ := hrel
    by_cases hlt : k < m
    · obtain ⟨uk, ck⟩ : ∃ u, wr.cell? ⟨w.heap.size, k, none⟩ = some u := ⟨cs[k], by rw [hB.cell]; exact Array.getElem?_eq_getElem (by omega)⟩
      have fk := hB.frozen k
      have HALL := Lib.hid hall
      clear hall
      have HCS := Lib.hid hcs
      clear hcs
      go_wp2_with fail
      refine (join1_any g k A n c xs _ (by rw [hb.cell hgl]; exact hg) (hx.below hb) (by omega)).mono ?_
      rintro e w' ⟨rfl, rfl⟩
      go_wp2_with fail
      go_roundw
      case rel =>
        refine ⟨k + 1, by omega, by go_num, hb.setCell (Nat.le_refl _) _, _, hB.set_ _ _, by simpa using HCS.out, ?_⟩
        intro j hj
        rw [Array.getElem?_setIfInBounds]
        by_cases e : k = j
        · subst e
          rw [if_pos rfl, if_pos (by rw [HCS.out]; exact hlt)]
        · rw [if_neg e]
          exact HALL.out j (by omega)
      case measure => simp [intOf]; omega
    · obtain rfl : k = m := by omega
      have HALL := Lib.hid hall
      clear hall
      have HCS := Lib.hid hcs
      clear hcs
      go_wp2
      go_loop [5] (fun s => ∃ l : Nat, l ≤ k ∧ s = .slice (some ⟨w.heap.size, 0, none⟩) l k ∧ ∀ j, l ≤ j → j < k → joinN xs j = 0) (fun s => match s with | .slice _ l _ => l | _ => 0)
      case atStart => exact ⟨k, Nat.le_refl _, rfl, fun j h1 h2 => absurd h2 (by omega)⟩
      case round =>
        obtain ⟨l, hl, rfl, hz⟩ := hrel
        have HZ := Lib.hid hz
        clear hz
        have fin : (l = 0 ∨ joinN xs (l - 1) ≠ 0) → Sl wr 1 IntC (some ⟨w.heap.size, 0, none⟩) l k (cutL (row (joinN xs) k)) := by
          intro h1
          have e := cutL_take (row (joinN xs) k) l (by rw [row_length]; exact hl) (fun j h1 h2 => by rw [row_length] at h2; rw [nth_row _ h2]; exact HZ.out j h1 h2) (by
            rcases h1 with h1 | h1
            · exact .inl h1
            · rcases Nat.eq_zero_or_pos l with h | h
              · exact .inl h
              · right; rw [nth_row _ (by omega)]; exact h1)
          rw [e]
          have hlen : ((row (joinN xs) k).take l).length = l := by rw [List.length_take, row_length]; omega
          refine ⟨hlen, hl, by omega, fun i hi => ⟨w.heap.size, 0, [.int .i64 (joinN xs i)], rfl, hB.lt, rfl, ⟨?_, ?_⟩, ?_⟩⟩
          · rw [List.getElem_take]; simp [row]
          · rw [List.getElem_take]; simp [row]; exact hr i
          · intro j u hu
            rw [hlen] at hi
            match j, hu with
            | 0, hu =>
              simp at hu
              subst hu
              have := hB.cell i
              rw [HALL.out i (by omega)] at this
              simpa using this
        have FIN := Lib.hid fin
        clear fin
        by_cases h0 : l = 0
        · subst h0
          go_wp2
          go_ret
          exact ⟨_, _, _, rfl, FIN.out (by simp), hb⟩
        · have hp : 0 < l := by omega
          obtain ⟨q, rfl⟩ : ∃ q, l = q + 1 := ⟨l - 1, by omega⟩
          have eq1 : ((q + 1 : Nat) : Int) - 1 = (q : Int) := by omega
          have cq := hB.cell q
          rw [HALL.out q (by omega)] at cq
          have hqk : q < k := by omega
          by_cases hv : joinN xs q = 0
          · have HV := Lib.hid hv
            rw [hv] at cq
            clear hv
            go_wp2
            go_round
            case rel =>
              exact ⟨q, by omega, rfl, fun j h1 h2 => by
                by_cases e : j = q
                · subst e; exact HV.out
                · exact HZ.out j (by omega) h2⟩
            case measure => simp
          · have hne : (joinN xs q == 0) = false := by simp [hv]
            go_wp2
            go_ret
            exact ⟨_, _, _, rfl, FIN.out (.inr hv), hb⟩
--END-JOIN
def meetN (xss : List (List Int)) (k : Nat) : Int := xss.foldl (fun m x => min m (atL x k)) (atL (nthR xss 0) k)
def meetF (a : Int) (xss : List (List Int)) (k : Nat) : Int := xss.foldl (fun m x => min m (atL x k)) a
theorem meetF_snoc (a : Int) (xs : List (List Int)) (x : List Int) (k : Nat) : meetF a (xs ++ [x]) k = min (meetF a xs k) (atL x k) := by simp [meetF]

set_option maxHeartbeats 400000 in
theorem meet1_any (g : Nat) (k : Nat) (A : Option Addr) (n c : Nat) (xs : List (List Int)) (w : World) (hg : w.cell? ⟨g, 0, none⟩ = some (.slice A n c)) (hx : Rws w A n c xs) (hk : k ≤ 9223372036854775807) (hn : 0 < n) :
    Calls Try.prog 34 #[.int .i64 k, .pointer (some ⟨g, 0, none⟩)] w fun e w' => e = .returned (.int .i64 (meetN xs k)) ∧ w = w' := by
  have hcap := And.intro hx.le hx.max
  have HL := Lib.hid hx.len
  obtain ⟨b, off, A0, n0, c0, rfl, had0, hc0, hr0⟩ := hx.row_at hn
  rw [Nat.add_zero] at hc0
  have hl0 : 0 < xs.length := by rw [hx.len]; exact hn
  have H1 : Hid (meetF (atL (nthR xs 0) k) (xs.take 1) k = atL (nthR xs 0) k) := by
    show _ = _
    rw [take_snocR hl0, meetF_snoc]; simp [meetF]
  have H2 : Hid (meetF (atL (nthR xs 0) k) xs k = meetN xs k) := rfl
  clear hl0
  by_cases hc1 : c = 1
  · obtain rfl : n = 1 := by omega
    subst hc1
    have e : xs.take 1 = xs := List.take_of_length_le (by rw [HL.out]; exact Nat.le_refl _)
    have H3 : Hid (atL (nthR xs 0) k = meetN xs k) := by
      have h := H1.out
      rw [e] at h
      exact h.symm.trans H2.out
    clear e
    go_enter Try.func34, Try.ntmps34
    go_wp2_with fail
    refine (at_any _ _ _ k _ _ hr0 (by omega)).mono ?_
    rintro e w' ⟨rfl, rfl⟩
    go_wp2_with fail
    go_loop [4, 6, 15] (fun m _ i => i = .int .i64 0 ∧ m = .int .i64 (atL (nthR xs 0) k)) (fun _ _ i => 0)
    case atStart => exact ⟨rfl, rfl⟩
    case round =>
      obtain ⟨rfl, rfl⟩ := hrel
      go_wp2_with fail
      go_ret
      exact ⟨ret_int H3.out, rfl⟩
  go_enter Try.func34, Try.ntmps34
  go_wp2_with fail
  refine (at_any _ _ _ k _ _ hr0 (by omega)).mono ?_
  rintro e w' ⟨rfl, rfl⟩
  go_wp2_with fail
  go_loop [4, 6, 15] (fun m _ i => ∃ j : Nat, j ≤ n - 1 ∧ i = .int .i64 j ∧ m = .int .i64 (meetF (atL (nthR xs 0) k) (xs.take (j + 1)) k)) (fun _ _ i => n - (intOf i).toNat)
  case atStart => exact ⟨0, Nat.zero_le _, rfl, by rw [H1.out]⟩
  case round =>
    obtain ⟨j, hj, rfl, rfl⟩ := hrel
    by_cases hlt : j + 1 < n
    · obtain ⟨b', off', A', n', c', e, had, hc1, hr⟩ := hx.row_at hlt
      have hcell : w.cell? ⟨b, off + 1 + j, none⟩ = some (.slice A' n' c') := by
        injection e with e; injection e with e1 e2; subst e1; subst e2
        rw [show off + 1 + j = off + (j + 1) by omega]; exact hc1
      clear e hc1
      have hlt' : j < n - 1 := by omega
      have hcap' := And.intro hr.le hr.max
      have HS := Lib.hid (take_snocR (xs := xs) (k := j + 1) (by rw [HL.out]; exact hlt))
      go_wp2_with fail
      refine (at_any _ _ _ k (nthR xs (j + 1)) _ hr (by omega)).mono ?_
      rintro e w' ⟨rfl, rfl⟩
      go_wp2_with fail
      all_goals
        go_round
        case rel => exact ⟨j + 1, by omega, by go_num, by rw [HS.out, meetF_snoc]; exact congrArg (Value.int .i64) (by omega)⟩
        case measure => simp [intOf]; omega
    · have ej : j + 1 = n := by omega
      have e : xs.take (j + 1) = xs := List.take_of_length_le (by rw [HL.out]; omega)
      rw [e, H2.out]
      clear e
      have hlt' : ¬ j < n - 1 := by omega
      have EJ := Lib.hid ej
      clear ej
      go_wp2
      go_ret
      exact ⟨rfl, rfl⟩
--BEGIN-MEET
set_option maxHeartbeats 1000000 in
theorem made_meet (g : Nat) (m : Nat) (hm : m ≤ 1000000) (A : Option Addr) (n c : Nat) (xs : List (List Int)) (w : World) (hg : w.cell? ⟨g, 0, none⟩ = some (.slice A n c)) (hgl : g < w.heap.size) (hx : Rws w A n c xs) (hn : 0 < n ∨ m = 0)
    (hr : ∀ k, I64 (meetN xs k)) :
    Calls Try.prog 27 #[.int .i64 m, .func (.func 34) #[] #[.pointer (some ⟨g, 0, none⟩)]] w fun e w' => ∃ a l c', e = .returned (.slice a l c') ∧ Sl w' 1 IntC a l c' (cutL (row (meetN xs) m)) ∧ Below w.heap.size w w' := by
  have hmk := make_ints m hm
  go_enter Try.func27, Try.ntmps27
  go_wp2
  clear hmk
  go_loopw [6, 11] (fun _ i wr => ∃ k : Nat, k ≤ m ∧ i = .int .i64 k ∧ Below w.heap.size w wr ∧ ∃ cs, Blk wr w.heap.size 3 cs ∧ cs.size = m ∧ ∀ j, j < k → cs[j]? = some (.int .i64 (meetN xs j))) (fun _ i _ => m - (intOf i).toNat)
  case atStart => exact ⟨0, Nat.zero_le _, rfl, (Below.refl _ _).alloc (Nat.le_refl _) _, _, Blk.new _ _ _, zeros_size m, fun j hj => absurd hj (by omega)⟩
  case round =>
    obtain ⟨k, hk, rfl, hb, cs, hB, hcs, hall⟩ := hrel
    by_cases hlt : k < m
    · obtain ⟨uk, ck⟩ : ∃ u, wr.cell? ⟨w.heap.size, k, none⟩ = some u := ⟨cs[k], by rw [hB.cell]; exact Array.getElem?_eq_getElem (by omega)⟩
      have fk := hB.frozen k
      have HALL := Lib.hid hall
      clear hall
      have HCS := Lib.hid hcs
      clear hcs
      go_wp2_with fail
      refine (meet1_any g k A n c xs _ (by rw [hb.cell hgl]; exact hg) (hx.below hb) (by omega) (by omega)).mono ?_
      rintro e w' ⟨rfl, rfl⟩
      go_wp2_with fail
      go_roundw
      case rel =>
        refine ⟨k + 1, by omega, by go_num, hb.setCell (Nat.le_refl _) _, _, hB.set_ _ _, by simpa using HCS.out, ?_⟩
        intro j hj
        rw [Array.getElem?_setIfInBounds]
        by_cases e : k = j
        · subst e
          rw [if_pos rfl, if_pos (by rw [HCS.out]; exact hlt)]
        · rw [if_neg e]
          exact HALL.out j (by omega)
      case measure => simp [intOf]; omega
    · obtain rfl : k = m := by omega
      have HALL := Lib.hid hall
      clear hall
      have HCS := Lib.hid hcs
      clear hcs
      go_wp2
      go_loop [5] (fun s => ∃ l : Nat, l ≤ k ∧ s = .slice (some ⟨w.heap.size, 0, none⟩) l k ∧ ∀ j, l ≤ j → j < k → meetN xs j = 0) (fun s => match s with | .slice _ l _ => l | _ => 0)
      case atStart => exact ⟨k, Nat.le_refl _, rfl, fun j h1 h2 => absurd h2 (by omega)⟩
      case round =>
        obtain ⟨l, hl, rfl, hz⟩ := hrel
        have HZ := Lib.hid hz
        clear hz
        have fin : (l = 0 ∨ meetN xs (l - 1) ≠ 0) → Sl wr 1 IntC (some ⟨w.heap.size, 0, none⟩) l k (cutL (row (meetN xs) k)) := by
          intro h1
          have e := cutL_take (row (meetN xs) k) l (by rw [row_length]; exact hl) (fun j h1 h2 => by rw [row_length] at h2; rw [nth_row _ h2]; exact HZ.out j h1 h2) (by
            rcases h1 with h1 | h1
            · exact .inl h1
            · rcases Nat.eq_zero_or_pos l with h | h
              · exact .inl h
              · right; rw [nth_row _ (by omega)]; exact h1)
          rw [e]
          have hlen : ((row (meetN xs) k).take l).length = l := by rw [List.length_take, row_length]; omega
          refine ⟨hlen, hl, by omega, fun i hi => ⟨w.heap.size, 0, [.int .i64 (meetN xs i)], rfl, hB.lt, rfl, ⟨?_, ?_⟩, ?_⟩⟩
          · rw [List.getElem_take]; simp [row]
          · rw [List.getElem_take]; simp [row]; exact hr i
          · intro j u hu
            rw [hlen] at hi
            match j, hu with
            | 0, hu =>
              simp at hu
              subst hu
              have := hB.cell i
              rw [HALL.out i (by omega)] at this
              simpa using this
        have FIN := Lib.hid fin
        clear fin
        by_cases h0 : l = 0
        · subst h0
          go_wp2
          go_ret
          exact ⟨_, _, _, rfl, FIN.out (by simp), hb⟩
        · have hp : 0 < l := by omega
          obtain ⟨q, rfl⟩ : ∃ q, l = q + 1 := ⟨l - 1, by omega⟩
          have eq1 : ((q + 1 : Nat) : Int) - 1 = (q : Int) := by omega
          have cq := hB.cell q
          rw [HALL.out q (by omega)] at cq
          have hqk : q < k := by omega
          by_cases hv : meetN xs q = 0
          · have HV := Lib.hid hv
            rw [hv] at cq
            clear hv
            go_wp2
            go_round
            case rel =>
              exact ⟨q, by omega, rfl, fun j h1 h2 => by
                by_cases e : j = q
                · subst e; exact HV.out
                · exact HZ.out j (by omega) h2⟩
            case measure => simp
          · have hne : (meetN xs q == 0) = false := by simp [hv]
            go_wp2
            go_ret
            exact ⟨_, _, _, rfl, FIN.out (.inr hv), hb⟩
--END-MEET
theorem Sl.int_bounds {w : World} {A : Option Addr} {n c : Nat} {xs : List Int} (h : Sl w 1 IntC A n c xs) : ∀ x ∈ xs, I64 x := by
  intro x hx
  obtain ⟨i, hi, rfl⟩ := List.getElem_of_mem hx
  obtain ⟨b, off, cs, e, hlt, hl, ⟨_, hr⟩, hc⟩ := h.4 i hi
  exact hr
theorem Rws.bounds {w : World} {A : Option Addr} {n c : Nat} {xs : List (List Int)} (h : Rws w A n c xs) : ∀ r ∈ xs, ∀ x ∈ r, I64 x := by
  intro r hr
  obtain ⟨i, hi, rfl⟩ := List.getElem_of_mem hr
  obtain ⟨b, off, cs, e, hlt, hl, ⟨A', n', c', _, hr⟩, hc⟩ := h.4 i hi
  exact hr.int_bounds
theorem atL_bd {xs : List Int} (h : ∀ x ∈ xs, I64 x) (k : Nat) : 0 ≤ atL xs k ∧ atL xs k ≤ 9223372036854775807 := by
  unfold atL
  split
  · rename_i hk
    have := h _ (List.getElem_mem hk)
    rw [nth_lt hk]
    unfold I64 at this
    omega
  · omega
theorem joinN_bd {xs : List (List Int)} (h : ∀ r ∈ xs, ∀ x ∈ r, I64 x) (k : Nat) : 0 ≤ joinN xs k ∧ joinN xs k ≤ 9223372036854775807 := by
  have H : ∀ (l : List (List Int)) (m : Int), (∀ r ∈ l, ∀ x ∈ r, I64 x) → 0 ≤ m → m ≤ 9223372036854775807 → 0 ≤ l.foldl (fun m x => max m (atL x k)) m ∧ l.foldl (fun m x => max m (atL x k)) m ≤ 9223372036854775807 := by
    intro l; induction l with
    | nil => intro m _ h1 h2; exact ⟨h1, h2⟩
    | cons a l ih =>
      intro m hl h1 h2
      have := atL_bd (hl a (by simp)) k
      exact ih _ (fun r hr => hl r (by simp [hr])) (by simp only []; omega) (by simp only []; omega)
  exact H xs 0 h (by omega) (by omega)
theorem meetF_bd {xs : List (List Int)} (h : ∀ r ∈ xs, ∀ x ∈ r, I64 x) (k : Nat) (a : Int) (h1 : 0 ≤ a) (h2 : a ≤ 9223372036854775807) : 0 ≤ meetF a xs k ∧ meetF a xs k ≤ 9223372036854775807 := by
  unfold meetF
  induction xs generalizing a with
  | nil => exact ⟨h1, h2⟩
  | cons r l ih =>
    have := atL_bd (h r (by simp)) k
    exact ih (fun r hr => h r (by simp [hr])) _ (by simp only []; omega) (by simp only []; omega)
theorem meetN_bd {xs : List (List Int)} (h : ∀ r ∈ xs, ∀ x ∈ r, I64 x) (k : Nat) : 0 ≤ meetN xs k ∧ meetN xs k ≤ 9223372036854775807 := by
  have h0 : 0 ≤ atL (nthR xs 0) k ∧ atL (nthR xs 0) k ≤ 9223372036854775807 := by
    apply atL_bd
    intro x hx
    rcases Nat.eq_zero_or_pos xs.length with e | hp
    · have : xs = [] := List.length_eq_zero_iff.1 e
      subst this
      simp [nthR] at hx
    · rw [nthR_lt hp] at hx
      exact h _ (List.getElem_mem hp) x hx
  exact meetF_bd h k _ h0.1 h0.2

def joinL (xs : List (List Int)) : List Int := cutL (row (joinN xs) (longL xs))
def meetL (xs : List (List Int)) : List Int := cutL (row (meetN xs) (longL xs))

set_option maxHeartbeats 400000 in
theorem join_any (A : Option Addr) (n c : Nat) (xs : List (List Int)) (w : World) (hx : Rws w A n c xs) (hm : longL xs ≤ 1000000) :
    Calls Try.prog 17 #[.slice A n c] w fun e w' => ∃ a l c', e = .returned (.slice a l c') ∧ Sl w' 1 IntC a l c' (joinL xs) ∧ Below w.heap.size w w' := by
  have hb : Below w.heap.size w (w.alloc (.cells #[.slice A n c] 31)) := (Below.refl _ _).alloc (Nat.le_refl _) _
  have hx' := hx.below hb
  have hg : (w.alloc (.cells #[.slice A n c] 31)).cell? ⟨w.heap.size, 0, none⟩ = some (.slice A n c) := (Blk.new w 31 #[.slice A n c]).cell 0
  have hbd := fun k => joinN_bd hx.bounds k
  have HBD := Lib.hid hbd
  clear hbd
  go_enter Try.func17, Try.ntmps17
  go_wp2_with fail
  refine (places_any _ _ _ xs _ hx').mono ?_
  rintro e w' ⟨rfl, rfl⟩
  go_wp2_with fail
  refine (made_join w.heap.size (longL xs) hm A n c xs _ hg (by simp) hx' (fun k => ⟨by have := HBD.out k; omega, (HBD.out k).2⟩)).mono ?_
  rintro e w' ⟨a, l, c', rfl, hs, hb'⟩
  go_wp2_with fail
  go_ret
  exact ⟨a, l, c', rfl, hs, hb.trans (hb'.mono (by simp))⟩

theorem longL_nil : longL [] = 0 := rfl
set_option maxHeartbeats 400000 in
theorem meet_any (A : Option Addr) (n c : Nat) (xs : List (List Int)) (w : World) (hx : Rws w A n c xs) (hm : longL xs ≤ 1000000) :
    Calls Try.prog 19 #[.slice A n c] w fun e w' => ∃ a l c', e = .returned (.slice a l c') ∧ Sl w' 1 IntC a l c' (meetL xs) ∧ Below w.heap.size w w' := by
  have hb : Below w.heap.size w (w.alloc (.cells #[.slice A n c] 31)) := (Below.refl _ _).alloc (Nat.le_refl _) _
  have hx' := hx.below hb
  have hg : (w.alloc (.cells #[.slice A n c] 31)).cell? ⟨w.heap.size, 0, none⟩ = some (.slice A n c) := (Blk.new w 31 #[.slice A n c]).cell 0
  have hbd := fun k => meetN_bd hx.bounds k
  have HBD := Lib.hid hbd
  clear hbd
  have HN : Hid (0 < n ∨ longL xs = 0) := by
    rcases Nat.eq_zero_or_pos n with e | hp
    · have e2 := hx.len
      rw [e] at e2
      have : xs = [] := List.length_eq_zero_iff.1 e2
      exact .inr (by rw [this]; rfl)
    · exact .inl hp
  go_enter Try.func19, Try.ntmps19
  go_wp2_with fail
  refine (places_any _ _ _ xs _ hx').mono ?_
  rintro e w' ⟨rfl, rfl⟩
  go_wp2_with fail
  refine (made_meet w.heap.size (longL xs) hm A n c xs _ hg (by simp) hx' HN.out (fun k => ⟨by have := HBD.out k; omega, (HBD.out k).2⟩)).mono ?_
  rintro e w' ⟨a, l, c', rfl, hs, hb'⟩
  go_wp2_with fail
  go_ret
  exact ⟨a, l, c', rfl, hs, hb.trans (hb'.mono (by simp))⟩
end Go.Proofs.Ytdoghihjanlgpaa
