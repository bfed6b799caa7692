/- Plain law: the sum of bytes, a table's step against eight ticks; no program in sight. -/
import Derived.Laws.BitsAllLaws
import Derived.Laws.Entries
namespace Go.Proofs.Ytanplhmnmicdaaa

def tick (x : Nat) : Nat := x / 2 ^^^ x % 2 * 3988292384
def ticks : Nat → Nat → Nat
  | 0, x => x
  | n + 1, x => tick (ticks n x)
def step8 (x : Nat) : Nat := ticks 8 x
def B32 : Nat := 4294967296
/-- the program's byte -/
def upd (x b : Nat) : Nat := x / 256 ^^^ step8 (x % 256 ^^^ b)

theorem tick_lt {x : Nat} (h : x < 4294967296) : tick x < 4294967296 := by
  unfold tick
  refine Nat.xor_lt_two_pow (n := 32) (by omega) ?_
  have : x % 2 ≤ 1 := by omega
  have := Nat.mul_le_mul_right 3988292384 this
  omega
theorem ticks_lt {x : Nat} (h : x < 4294967296) : ∀ n, ticks n x < 4294967296
  | 0 => h
  | n + 1 => tick_lt (ticks_lt h n)
theorem step8_lt {x : Nat} (h : x < 4294967296) : step8 x < 4294967296 := ticks_lt h 8

theorem xor_div2 (x y : Nat) : (x ^^^ y) / 2 = x / 2 ^^^ y / 2 := by
  have := @Nat.shiftRight_xor_distrib 1 x y
  simpa [Nat.shiftRight_eq_div_pow] using this
theorem xor_mod2 (x y : Nat) : (x ^^^ y) % 2 = (x % 2 ^^^ y % 2) := by
  have := @Nat.xor_mod_two_pow x y 1
  simpa using this
theorem tick_xor (x y : Nat) : tick (x ^^^ y) = tick x ^^^ tick y := by
  unfold tick
  rw [xor_div2, xor_mod2]
  have e : (x % 2 ^^^ y % 2) * 3988292384 = (x % 2 * 3988292384) ^^^ (y % 2 * 3988292384) := by
    rcases Nat.mod_two_eq_zero_or_one x with hx | hx <;> rcases Nat.mod_two_eq_zero_or_one y with hy | hy <;> simp [hx, hy]
  rw [e]
  ac_rfl
theorem ticks_xor (x y : Nat) : ∀ n, ticks n (x ^^^ y) = ticks n x ^^^ ticks n y
  | 0 => rfl
  | n + 1 => by simp only [ticks]; rw [ticks_xor x y n, tick_xor]
theorem tick_even (x : Nat) : tick (2 * x) = x := by simp [tick]
theorem ticks_up (x : Nat) : ∀ n, ticks n (2 ^ n * x) = x
  | 0 => by simp [ticks]
  | n + 1 => by
    have : ticks n (2 ^ (n + 1) * x) = 2 * x := by
      have := ticks_up (2 * x) n
      rwa [show 2 ^ n * (2 * x) = 2 ^ (n + 1) * x from by rw [Nat.pow_succ, Nat.mul_assoc]] at this
    simp only [ticks]; rw [this, tick_even]

theorem split_xor (x : Nat) : x = (256 * (x / 256)) ^^^ (x % 256) := by
  have h := Nat.two_pow_add_eq_or_of_lt (i := 8) (b := x % 256) (by omega) (x / 256)
  have h1 : 256 * (x / 256) + x % 256 = x := by omega
  have h2 : (2 ^ 8 * (x / 256)) ||| (x % 256) = (2 ^ 8 * (x / 256)) ^^^ (x % 256) := by
    apply Nat.eq_of_testBit_eq
    intro i
    rw [Nat.testBit_or, Nat.testBit_xor]
    by_cases hi : i < 8
    · have : (2 ^ 8 * (x / 256)).testBit i = false := by
        rw [Nat.testBit_two_pow_mul]; simp; omega
      simp [this]
    · have : (x % 256).testBit i = false := Nat.testBit_lt_two_pow (Nat.lt_of_lt_of_le (by omega : x % 256 < 2 ^ 8) (Nat.pow_le_pow_right (by decide) (by omega)))
      simp [this]
  rw [h2] at h
  simpa [h1] using h

/-- a byte by the table is eight ticks -/
theorem upd_eq (x b : Nat) : upd x b = step8 (x ^^^ b) := by
  unfold upd step8
  conv => rhs; rw [split_xor x]
  have := ticks_up (x / 256) 8
  rw [Nat.xor_assoc, ticks_xor (256 * (x / 256)), show 256 * (x / 256) = 2 ^ 8 * (x / 256) from rfl, this]

theorem xor_zero_eq {x y : Nat} (h : x ^^^ y = 0) : x = y := by
  have := congrArg (· ^^^ y) h
  simpa [Nat.xor_assoc] using this
theorem tick_zero {z : Nat} (hz : z < 4294967296) (h : tick z = 0) : z = 0 := by
  unfold tick at h
  have h1 := xor_zero_eq h
  rcases Nat.mod_two_eq_zero_or_one z with hm | hm
  · rw [hm] at h1; omega
  · rw [hm] at h1; omega
theorem tick_inj {x y : Nat} (hx : x < 4294967296) (hy : y < 4294967296) (h : tick x = tick y) : x = y := by
  apply xor_zero_eq
  apply tick_zero (Nat.xor_lt_two_pow (n := 32) hx hy)
  rw [tick_xor, h, Nat.xor_self]
theorem ticks_inj {x y : Nat} (hx : x < 4294967296) (hy : y < 4294967296) : ∀ n, ticks n x = ticks n y → x = y
  | 0, h => h
  | n + 1, h => ticks_inj hx hy n (tick_inj (ticks_lt hx n) (ticks_lt hy n) h)

def foldC (x : Nat) (l : List UInt8) : Nat := l.foldl (fun x b => step8 (x ^^^ b.toNat)) x
theorem b8 (b : UInt8) : b.toNat < 4294967296 := by have := b.toNat_lt; omega
theorem foldC_lt : ∀ (l : List UInt8) {x : Nat}, x < 4294967296 → foldC x l < 4294967296
  | [], _, h => h
  | b :: l, _, h => foldC_lt l (step8_lt (Nat.xor_lt_two_pow (n := 32) h (b8 b)))
theorem foldC_append (x : Nat) (a b : List UInt8) : foldC x (a ++ b) = foldC (foldC x a) b := by simp [foldC, List.foldl_append]
theorem xor_cancel {x y b : Nat} (h : x ^^^ b = y ^^^ b) : x = y := by
  have := congrArg (· ^^^ b) h
  simpa [Nat.xor_assoc] using this
theorem foldC_inj : ∀ (l : List UInt8) {x y : Nat}, x < 4294967296 → y < 4294967296 → foldC x l = foldC y l → x = y
  | [], _, _, _, _, h => h
  | b :: l, x, y, hx, hy, h =>
    xor_cancel (ticks_inj (Nat.xor_lt_two_pow (n := 32) hx (b8 b)) (Nat.xor_lt_two_pow (n := 32) hy (b8 b)) 8
      (foldC_inj l (step8_lt (Nat.xor_lt_two_pow (n := 32) hx (b8 b))) (step8_lt (Nat.xor_lt_two_pow (n := 32) hy (b8 b))) h))
theorem foldC_snoc (x : Nat) (l : List UInt8) (k : Nat) (h : k < l.length) : foldC x (l.take (k + 1)) = step8 (foldC x (l.take k) ^^^ l[k].toNat) := by
  rw [List.take_succ_eq_append_getElem h, foldC_append]; rfl

/-- More: n is the number handed in, as 32 bits -/
def moreN (n : Nat) (l : List UInt8) : Nat := foldC (n ^^^ 4294967295) l ^^^ 4294967295
def m32 (s : Int) : Nat := (s % 4294967296).toNat
theorem m32_lt (s : Int) : m32 s < 4294967296 := by unfold m32; omega
theorem m32_of {n : Nat} (h : n < 4294967296) : m32 (n : Int) = n := by unfold m32; omega
theorem m32_m32 (s : Int) : m32 (s % 4294967296) = m32 s := by unfold m32; omega
def moreL (s : Int) (l : List UInt8) : Nat := moreN (m32 s) l
def sumL (l : List UInt8) : Nat := moreL 0 l
theorem flip_lt {n : Nat} (h : n < 4294967296) : n ^^^ 4294967295 < 4294967296 := Nat.xor_lt_two_pow (n := 32) h (by decide)
theorem moreL_lt (s : Int) (l : List UInt8) : moreL s l < 4294967296 := flip_lt (foldC_lt l (flip_lt (m32_lt s)))
theorem joins (a b : List UInt8) : moreL (sumL a : Nat) b = sumL (a ++ b) := by
  unfold sumL
  rw [moreL, m32_of (moreL_lt _ _)]
  simp [moreL, moreN, foldC_append, Nat.xor_assoc]
theorem small (s : Int) (l : List UInt8) : moreL (s % 4294967296) l = moreL s l := by unfold moreL; rw [m32_m32]

theorem told (l : List UInt8) (n : Nat) (h : n < l.length) (c : UInt8) : (sumL (l.set n c) = sumL l) ↔ l[n] = c := by
  constructor
  · intro e
    have hx := flip_lt (m32_lt 0)
    have e := xor_cancel (e : foldC _ _ ^^^ 4294967295 = foldC _ _ ^^^ 4294967295)
    have h1 : l.set n c = l.take n ++ (c :: l.drop (n + 1)) := by
      rw [List.set_eq_take_append_cons_drop, if_pos h]
    have h2 : l = l.take n ++ (l[n] :: l.drop (n + 1)) := by
      rw [← List.drop_eq_getElem_cons h, List.take_append_drop]
    rw [h1] at e
    conv at e => rhs; rw [h2]
    rw [foldC_append, foldC_append] at e
    have hp := foldC_lt (l.take n) hx
    have e2 := foldC_inj (l.drop (n + 1)) (step8_lt (Nat.xor_lt_two_pow (n := 32) hp (b8 c))) (step8_lt (Nat.xor_lt_two_pow (n := 32) hp (b8 l[n]))) e
    have e3 := ticks_inj (Nat.xor_lt_two_pow (n := 32) hp (b8 c)) (Nat.xor_lt_two_pow (n := 32) hp (b8 l[n])) 8 e2
    rw [Nat.xor_comm, Nat.xor_comm _ l[n].toNat] at e3
    exact (UInt8.toNat_inj.1 (xor_cancel e3)).symm
  · intro e
    rw [← e, List.set_getElem_self]

theorem awake_nine : sumL [49, 50, 51, 52, 53, 54, 55, 56, 57] = 3421780262 := by decide +kernel
theorem awake_none : sumL [] = 0 := by decide +kernel

/-! ### the codes' spellings -/
theorem tick_code {X : Nat} (h : X < 4294967296) : bits .xor .u32 ((X : Int) / 2) (bits .and .u32 (X : Int) 1 * 3988292384 % 4294967296) = ((tick X : Nat) : Int) := by
  have h1 : bits .and .u32 (X : Int) 1 = ((X % 2 : Nat) : Int) := by
    have := u32_and_nat X 1 h (by decide)
    rw [Nat.and_one_is_mod] at this
    exact this
  rw [h1]
  have h2 : (((X % 2 : Nat) : Int) * 3988292384) % 4294967296 = ((X % 2 * 3988292384 : Nat) : Int) := by omega
  rw [h2, show ((X : Int) / 2) = ((X / 2 : Nat) : Int) from by omega]
  exact u32_xor_nat _ _ (by omega) (by omega)
theorem upd_code {X n : Nat} (h : X < 4294967296) (hn : n < 256) : bits .xor .u32 ((X : Int) / 256) ((step8 n : Nat) : Int) = ((X / 256 ^^^ step8 n : Nat) : Int) := by
  rw [show ((X : Int) / 256) = ((X / 256 : Nat) : Int) from by omega]
  exact u32_xor_nat _ _ (by omega) (step8_lt (by omega))
theorem flip_code {X : Nat} (h : X < 4294967296) : bits .xor .u32 4294967295 (X : Int) = ((X ^^^ 4294967295 : Nat) : Int) := by
  have := u32_xor_nat 4294967295 X (by decide) h
  rw [Nat.xor_comm] at this
  exact this
theorem xor_i64 {a b : Nat} (ha : a < 9223372036854775808) (hb : b < 9223372036854775808) : bits .xor .i64 (a : Int) (b : Int) = ((a ^^^ b : Nat) : Int) := by
  have hx : a ^^^ b < 2 ^ 63 := Nat.xor_lt_two_pow ha hb
  unfold bits
  have h1 : ∀ n : Nat, n < 9223372036854775808 → (BitVec.ofInt IntKind.i64.bits (n : Int)).toNat = n := by
    intro n hn
    have : IntKind.i64.bits = 64 := rfl
    simp [this]
    omega
  simp only [BitVec.toNat_xor, h1 a ha, h1 b hb]
  have e : IntKind.i64.bits = 64 := rfl
  have e2 : IntKind.i64.signed = true := rfl
  simp [IntKind.wrap, e, e2]
  omega
end Go.Proofs.Ytanplhmnmicdaaa
