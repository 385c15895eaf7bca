/- varint.Get: what it computes. Condition: the place lies in the text. -/
import Derived.Test.YtlekjobicpnafaaBase
import Derived.Test.YtlekjobicpnafaaProg
import Derived.Laws.BitsLemmas
import Derived.Lib.Hide
namespace Go.Proofs.Ytlekjobicpnafaa.Cd
open Go Go.RowKit Base
set_option linter.unusedVariables false
set_option linter.unusedSimpArgs false

/-- A text's byte. -/
def by8 (s : ByteArray) (i : Nat) : Nat := if h : i < s.size then s[i].toNat else 0
theorem by8_lt (s : ByteArray) (i : Nat) : by8 s i < 256 := by
  unfold by8
  split
  · exact UInt8.toNat_lt _
  · omega

def getGo (s : ByteArray) (a : Nat) : Nat → Nat → Int → Int × Int × Int
  | 0, _, _ => (0, 0, 10)
  | d + 1, k, m =>
    if a + k = s.size then (0, 0, 9)
    else if 128 ≤ by8 s (a + k) then getGo s a d (k + 1) (m + (by8 s (a + k) % 128 : Nat) * 128 ^ k)
    else if by8 s (a + k) = 0 ∧ 0 < k then (0, 0, 10)
    else if 2147483647 < m + (by8 s (a + k) % 128 : Nat) * 128 ^ k then (0, 0, 8)
    else (m + (by8 s (a + k) % 128 : Nat) * 128 ^ k, (a : Int) + k + 1, 0)
def getF (s : ByteArray) (a : Nat) : Int × Int × Int := getGo s a 5 0 0

theorem wraps_i64 (n : Int) (h₀ : 0 ≤ n) (h₁ : n < 2 ^ 63) : IntKind.i64.wrap n = n := by rw [IntKind.wrap_i64]; omega
theorem bits_or_comm (k : IntKind) (x y : Int) : bits .or k x y = bits .or k y x := by simp only [bits, BitVec.or_comm]
theorem or_high {m x : Int} {i : Nat} {p : Int} (hp : p = 2 ^ i) (hi : i ≤ 35) (h0 : 0 ≤ m) (h1 : m < p) (x0 : 0 ≤ x) (x1 : x < 128) : bits .or .i64 m (x * p) = m + x * p := by
  subst hp
  have e1 : (0 : Int) < 2 ^ i := Int.pow_pos (by decide)
  have e2 : ((2 : Int) ^ i) ≤ 2 ^ 35 := by
    have : 2 ^ i ≤ 2 ^ 35 := Nat.pow_le_pow_right (by decide) hi
    exact_mod_cast this
  have e3 : x * 2 ^ i ≤ 127 * 2 ^ i := Int.mul_le_mul_of_nonneg_right (by omega) (by omega)
  have e4 : 0 ≤ x * 2 ^ i := Int.mul_nonneg x0 (by omega)
  rw [bits_or_comm, bits_join .i64 63 (by decide) wraps_i64 i (x * 2 ^ i) m e4 (Int.mul_emod_left _ _) (by omega) h0 h1 (by omega)]
  omega
theorem and127 {c : Nat} (h : c < 256) : bits .and .u8 (c : Int) 127 = (c % 128 : Nat) := by
  have := bits_mask .u8 8 (by decide) wraps_u8 7 (by decide) (c : Int) (by omega) (by omega)
  have e : bits .and .u8 (c : Int) 127 = (c : Int) % 128 := this
  rw [e]; simp

theorem ret_iii {a b c x y z : Int} (h : (x, y, z) = (a, b, c)) : Ending.returned (.tuple #[.int .i64 a, .int .i64 b, .int .i64 c]) = .returned (.tuple #[.int .i64 x, .int .i64 y, .int .i64 z]) := by
  obtain ⟨rfl, rfl, rfl⟩ : x = a ∧ y = b ∧ z = c := by simpa using h
  rfl
theorem ret_iii' {a b c x y z : Int} (h : (x, y, z) = (a, b, c)) : Ending.returned (.tuple #[.int .i64 x, .int .i64 y, .int .i64 z]) = .returned (.tuple #[.int .i64 a, .int .i64 b, .int .i64 c]) := (ret_iii h).symm

theorem getGo_zero (s : ByteArray) (a k : Nat) (m : Int) : getGo s a 0 k m = (0, 0, 10) := rfl
theorem getGo_end {s : ByteArray} {a d k : Nat} {m : Int} (h : a + k = s.size) : getGo s a (d + 1) k m = (0, 0, 9) := by rw [getGo, if_pos h]
theorem getGo_more {s : ByteArray} {a d k c : Nat} {m m' : Int} {p : Int} (h : ¬ a + k = s.size) (hc : by8 s (a + k) = c) (hp : p = 128 ^ k) (hm : m + (c % 128 : Nat) * p = m') (h2 : 128 ≤ c) : getGo s a (d + 1) k m = getGo s a d (k + 1) m' := by
  subst hc hp hm; rw [getGo, if_neg h, if_pos h2]
theorem getGo_long {s : ByteArray} {a d k c : Nat} {m : Int} (h : ¬ a + k = s.size) (hc : by8 s (a + k) = c) (h2 : ¬ 128 ≤ c) (h3 : c = 0 ∧ 0 < k) : getGo s a (d + 1) k m = (0, 0, 10) := by
  subst hc; rw [getGo, if_neg h, if_neg h2, if_pos h3]
theorem getGo_over {s : ByteArray} {a d k c : Nat} {m m' : Int} {p : Int} (h : ¬ a + k = s.size) (hc : by8 s (a + k) = c) (hp : p = 128 ^ k) (hm : m + (c % 128 : Nat) * p = m') (h2 : ¬ 128 ≤ c) (h3 : ¬ (c = 0 ∧ 0 < k)) (h4 : 2147483647 < m') : getGo s a (d + 1) k m = (0, 0, 8) := by
  subst hc hp hm; rw [getGo, if_neg h, if_neg h2, if_neg h3, if_pos h4]
theorem getGo_done {s : ByteArray} {a d k c : Nat} {m m' : Int} {p : Int} (h : ¬ a + k = s.size) (hc : by8 s (a + k) = c) (hp : p = 128 ^ k) (hm : m + (c % 128 : Nat) * p = m') (h2 : ¬ 128 ≤ c) (h3 : ¬ (c = 0 ∧ 0 < k)) (h4 : ¬ 2147483647 < m') : getGo s a (d + 1) k m = (m', (a : Int) + k + 1, 0) := by
  subst hc hp hm; rw [getGo, if_neg h, if_neg h2, if_neg h3, if_neg h4]

end Go.Proofs.Ytlekjobicpnafaa.Cd
