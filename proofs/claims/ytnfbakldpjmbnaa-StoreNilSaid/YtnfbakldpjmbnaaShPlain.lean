/- The digest in plain words: the words of a block, a round, a block pressed in, the whole. -/
import Derived.Test.YtnfbakldpjmbnaaShA
namespace Go.Proofs.Ytnfbakldpjmbnaa

/-- what follows of earlier words -/
def s0 (a : Nat) : Nat := tr a 1 ^^^ tr a 8 ^^^ a / 128
def s1 (b : Nat) : Nat := tr b 19 ^^^ tr b 61 ^^^ b / 64
def add64 (a b : Nat) : Nat := (a + b) % 18446744073709551616
def nextW (l : List UInt8) (ws : List Nat) : Nat :=
  if ws.length < 16 then num8 ((l.drop (8 * ws.length)).take 8)
  else add64 (add64 (add64 (ws.getD (ws.length - 16) 0) (ws.getD (ws.length - 7) 0)) (s0 (ws.getD (ws.length - 15) 0))) (s1 (ws.getD (ws.length - 2) 0))
def stepW (l : List UInt8) (ws : List Nat) : List Nat := ws ++ [nextW l ws]
def wordsL (l : List UInt8) : Nat → List Nat
  | 0 => []
  | n + 1 => stepW l (wordsL l n)
theorem wordsL_len (l : List UInt8) : ∀ n, (wordsL l n).length = n
  | 0 => rfl
  | n + 1 => by simp [wordsL, stepW, wordsL_len l n]

def W64 (x : Nat) : Prop := x < 18446744073709551616
theorem add64_lt (a b : Nat) : W64 (add64 a b) := Nat.mod_lt _ (by decide)
theorem tr_lt {x n : Nat} (h : W64 x) : W64 (tr x n) := by
  unfold tr W64 at *
  have e : 18446744073709551616 = 2 ^ 64 := rfl
  rw [e]
  exact Nat.or_lt_two_pow (Nat.lt_of_le_of_lt (Nat.div_le_self _ _) h) (Nat.mod_lt _ (by decide))
theorem xor_lt64 {a b : Nat} (ha : W64 a) (hb : W64 b) : W64 (a ^^^ b) := Nat.xor_lt_two_pow (n := 64) ha hb
theorem and_lt64 {a b : Nat} (ha : W64 a) : W64 (a &&& b) := Nat.lt_of_le_of_lt Nat.and_le_left ha
theorem div_lt64 {a n : Nat} (ha : W64 a) : W64 (a / n) := Nat.lt_of_le_of_lt (Nat.div_le_self _ _) ha
theorem s0_lt {a : Nat} (h : W64 a) : W64 (s0 a) := xor_lt64 (xor_lt64 (tr_lt h) (tr_lt h)) (div_lt64 h)
theorem s1_lt {a : Nat} (h : W64 a) : W64 (s1 a) := xor_lt64 (xor_lt64 (tr_lt h) (tr_lt h)) (div_lt64 h)
theorem num8_lt (l : List UInt8) (h : l.length ≤ 8) : W64 (num8 l) := by
  have key : ∀ k, k ≤ l.length → num8 (l.take k) < 256 ^ k := by
    intro k
    induction k with
    | zero => intro _; simp [num8]
    | succ k ih => intro hk; rw [num8_step l k (by omega)]; exact num8_bound _ _ _ (ih (by omega))
  have := key l.length (Nat.le_refl _)
  rw [List.take_length] at this
  exact Nat.lt_of_lt_of_le this (show 256 ^ l.length ≤ 256 ^ 8 from Nat.pow_le_pow_right (by decide) h)
theorem nextW_lt (l : List UInt8) (ws : List Nat) : W64 (nextW l ws) := by
  unfold nextW
  split
  · exact num8_lt _ (by simp; omega)
  · exact add64_lt _ _

/-- the state of eight numbers -/
structure V8 where
  (a b c d e f g h : Nat)
def V8.list (v : V8) : List Nat := [v.a, v.b, v.c, v.d, v.e, v.f, v.g, v.h]
def V8.ok (v : V8) : Prop := W64 v.a ∧ W64 v.b ∧ W64 v.c ∧ W64 v.d ∧ W64 v.e ∧ W64 v.f ∧ W64 v.g ∧ W64 v.h
def neg64 (x : Nat) : Nat := 18446744073709551615 ^^^ x
def xx (v : V8) (k w : Nat) : Nat :=
  add64 (add64 (add64 (add64 v.h (tr v.e 14 ^^^ tr v.e 18 ^^^ tr v.e 41)) ((v.e &&& v.f) ^^^ (neg64 v.e &&& v.g))) k) w
def yy (v : V8) : Nat := add64 (tr v.a 28 ^^^ tr v.a 34 ^^^ tr v.a 39) ((v.a &&& v.b) ^^^ (v.a &&& v.c) ^^^ (v.b &&& v.c))
def rnd (v : V8) (k w : Nat) : V8 := ⟨add64 (xx v k w) (yy v), v.a, v.b, v.c, add64 v.d (xx v k w), v.e, v.f, v.g⟩
def addV (x y : V8) : V8 := ⟨add64 x.a y.a, add64 x.b y.b, add64 x.c y.c, add64 x.d y.d, add64 x.e y.e, add64 x.f y.f, add64 x.g y.g, add64 x.h y.h⟩
theorem rnd_ok {v : V8} (k w : Nat) (h : v.ok) : (rnd v k w).ok := ⟨add64_lt _ _, h.1, h.2.1, h.2.2.1, add64_lt _ _, h.2.2.2.2.1, h.2.2.2.2.2.1, h.2.2.2.2.2.2.1⟩
theorem addV_ok (x y : V8) : (addV x y).ok := ⟨add64_lt _ _, add64_lt _ _, add64_lt _ _, add64_lt _ _, add64_lt _ _, add64_lt _ _, add64_lt _ _, add64_lt _ _⟩

def konst : List Nat := [
  4794697086780616226, 8158064640168781261, 13096744586834688815, 16840607885511220156,
  4131703408338449720, 6480981068601479193, 10538285296894168987, 12329834152419229976,
  15566598209576043074, 1334009975649890238, 2608012711638119052, 6128411473006802146,
  8268148722764581231, 9286055187155687089, 11230858885718282805, 13951009754708518548,
  16472876342353939154, 17275323862435702243, 1135362057144423861, 2597628984639134821,
  3308224258029322869, 5365058923640841347, 6679025012923562964, 8573033837759648693,
  10970295158949994411, 12119686244451234320, 12683024718118986047, 13788192230050041572,
  14330467153632333762, 15395433587784984357, 489312712824947311, 1452737877330783856,
  2861767655752347644, 3322285676063803686, 5560940570517711597, 5996557281743188959,
  7280758554555802590, 8532644243296465576, 9350256976987008742, 10552545826968843579,
  11727347734174303076, 12113106623233404929, 14000437183269869457, 14369950271660146224,
  15101387698204529176, 15463397548674623760, 17586052441742319658, 1182934255886127544,
  1847814050463011016, 2177327727835720531, 2830643537854262169, 3796741975233480872,
  4115178125766777443, 5681478168544905931, 6601373596472566643, 7507060721942968483,
  8399075790359081724, 8693463985226723168, 9568029438360202098, 10144078919501101548,
  10430055236837252648, 11840083180663258601, 13761210420658862357, 14299343276471374635,
  14566680578165727644, 15097957966210449927, 16922976911328602910, 17689382322260857208,
  500013540394364858, 748580250866718886, 1242879168328830382, 1977374033974150939,
  2944078676154940804, 3659926193048069267, 4368137639120453308, 4836135668995329356,
  5532061633213252278, 6448918945643986474, 6902733635092675308, 7801388544844847127]
/-- the rounds -/
def rounds (ws : List Nat) (v : V8) : Nat → V8
  | 0 => v
  | n + 1 => rnd (rounds ws v n) (konst.getD n 0) (ws.getD n 0)
theorem rounds_ok (ws : List Nat) {v : V8} (h : v.ok) : ∀ n, (rounds ws v n).ok
  | 0 => h
  | n + 1 => rnd_ok _ _ (rounds_ok ws h n)
/-- a block pressed in -/
def pressL (v : V8) (l : List UInt8) : V8 := addV v (rounds (wordsL l 80) v 80)
def pressAll (v : V8) (s : List UInt8) : Nat → V8
  | 0 => v
  | n + 1 => pressL (pressAll v s n) ((s.drop (128 * n)).take 128)
def start : V8 := ⟨7640891576956012808, 13503953896175478587, 4354685564936845355, 11912009170470909681, 5840696475078001361, 11170449401992604703, 2270897969802886507, 6620516959819538809⟩
theorem start_ok : start.ok := by unfold V8.ok W64 start; decide
end Go.Proofs.Ytnfbakldpjmbnaa
