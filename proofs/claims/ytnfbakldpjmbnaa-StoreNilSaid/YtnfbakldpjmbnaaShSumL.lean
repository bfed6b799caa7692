/- The digest of bytes in plain words, and of "abc". -/
import Derived.Test.YtnfbakldpjmbnaaShPlain
import Derived.Test.YtnfbakldpjmbnaaShB
namespace Go.Proofs.Ytnfbakldpjmbnaa

def zerosOf (n : Nat) : Nat := (239 - n % 128) % 128
def padL (l : List UInt8) : List UInt8 := l ++ 128 :: List.replicate (zerosOf l.length) 0 ++ be8 0 ++ be8 (8 * l.length)
def bytesV (v : V8) : List UInt8 := v.list.flatMap be8
def sumL (l : List UInt8) : List UInt8 := bytesV (pressAll start (padL l) ((padL l).length / 128))
def abc : List UInt8 := [97, 98, 99]
def abcKey : List UInt8 := [0xdd, 0xaf, 0x35, 0xa1, 0x93, 0x61, 0x7a, 0xba, 0xcc, 0x41, 0x73, 0x49, 0xae, 0x20, 0x41, 0x31, 0x12, 0xe6, 0xfa, 0x4e, 0x89, 0xa9, 0x7e, 0xa2, 0x0a, 0x9e, 0xee, 0xe6, 0x4b, 0x55, 0xd3, 0x9a]
theorem padL_len (l : List UInt8) : (padL l).length % 128 = 0 ∧ 128 ≤ (padL l).length := by
  unfold padL zerosOf
  simp [be8]
  omega
theorem sumL_len (l : List UInt8) : (sumL l).length = 64 := by simp [sumL, bytesV, V8.list, be8]
set_option maxRecDepth 100000 in
theorem abc_key : (sumL abc).take 32 = abcKey := by decide +kernel
end Go.Proofs.Ytnfbakldpjmbnaa
