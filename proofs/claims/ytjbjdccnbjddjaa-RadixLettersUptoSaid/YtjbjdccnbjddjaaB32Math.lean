import Derived.Test.YtjbjdccnbjddjaaExtFromBase32
import Derived.Test.YtjbjdccnbjddjaaMixMath
namespace Go.Proofs.Ytjbjdccnbjddjaa
open Go.RowKit Go.Proofs.YtjbjdccnbjddjaaW.PrintWords Go.Proofs.YtjbjdccnbjddjaaW.PrintMore

/-! ### The number of a text, the first byte the lowest; its digits of five bits -/
def byteN (b : ByteArray) (i : Nat) : Nat := (bt b i).toNat
theorem byteN_lt (b : ByteArray) (i : Nat) : byteN b i < 256 := by have := bt_range b i; unfold byteN; omega
theorem byteN_bt (b : ByteArray) (i : Nat) : (byteN b i : Int) = bt b i := by have := bt_range b i; unfold byteN; omega
def numN (b : ByteArray) : Nat → Nat
  | 0 => 0
  | i + 1 => numN b i + byteN b i * 256 ^ i
theorem numN_lt (b : ByteArray) (i : Nat) : numN b i < 256 ^ i := by
  induction i with
  | zero => simp [numN]
  | succ i ih =>
    have := byteN_lt b i
    rw [numN, Nat.pow_succ, Nat.mul_comm (256 ^ i)]
    have : byteN b i * 256 ^ i ≤ 255 * 256 ^ i := Nat.mul_le_mul_right _ (by omega)
    omega
theorem pow256 (i : Nat) : 256 ^ i = 2 ^ (8 * i) := by rw [Nat.pow_mul]
theorem pow32 (i : Nat) : 32 ^ i = 2 ^ (5 * i) := by rw [Nat.pow_mul]
/-- A digit is the byte's own as soon as all its bits are there. -/
theorem digit_stable (b : ByteArray) (i j : Nat) (h : 5 * (j + 1) ≤ 8 * i) : numN b (i + 1) / 32 ^ j % 32 = numN b i / 32 ^ j % 32 := by
  have e : 256 ^ i = 32 ^ j * (32 * 2 ^ (8 * i - 5 * (j + 1))) := by
    rw [pow256, pow32, show (32 : Nat) = 2 ^ 5 from rfl, ← Nat.pow_add, ← Nat.pow_add]
    congr 1
    omega
  have e2 : numN b (i + 1) = numN b i + 32 ^ j * (32 * (byteN b i * 2 ^ (8 * i - 5 * (j + 1)))) := by
    rw [numN, e]
    congr 1
    rw [Nat.mul_left_comm, Nat.mul_left_comm (byteN b i)]
  rw [e2, Nat.add_mul_div_left _ _ (Nat.pow_pos (by omega)), Nat.add_mul_mod_self_left]
theorem acc_step (b : ByteArray) (i e held : Nat) (h : 5 * e + held = 8 * i) : numN b (i + 1) / 32 ^ e = numN b i / 32 ^ e + byteN b i * 2 ^ held := by
  have e1 : 256 ^ i = 32 ^ e * 2 ^ held := by
    rw [pow256, pow32, ← Nat.pow_add]
    congr 1
    omega
  rw [numN, e1, Nat.mul_left_comm, Nat.add_mul_div_left _ _ (Nat.pow_pos (by omega))]
theorem acc_lt (b : ByteArray) (i e held : Nat) (h : 5 * e + held = 8 * i) : numN b i / 32 ^ e < 2 ^ held := by
  rw [Nat.div_lt_iff_lt_mul (Nat.pow_pos (by omega)), pow32, ← Nat.pow_add]
  have := numN_lt b i
  rw [pow256] at this
  rwa [show held + 5 * e = 8 * i by omega]

/-- A letter. -/
def lt (d : Nat) : Int := bt letterText d
/-- The letters of number n, the last place the lowest, e of them there. -/
def rowB (m n e : Nat) : List Int := (List.range m).map fun p => if m - 1 - p < e then lt (n / 32 ^ (m - 1 - p) % 32) else 0
theorem rowB_length (m n e : Nat) : (rowB m n e).length = m := by simp [rowB]
theorem rowB_get (m n e p : Nat) (hp : p < m) : (rowB m n e)[p]'(by rw [rowB_length]; exact hp) = if m - 1 - p < e then lt (n / 32 ^ (m - 1 - p) % 32) else 0 := by simp [rowB]
theorem rowB_set (m n e : Nat) (he : e < m) : (rowB m n e).set (m - 1 - e) (lt (n / 32 ^ e % 32)) = rowB m n (e + 1) := by
  apply List.ext_getElem
  · simp [rowB_length]
  · intro p h1 h2
    rw [rowB_length] at h2
    rw [List.getElem_set, rowB_get m n (e + 1) p h2]
    by_cases hpe : m - 1 - e = p
    · rw [if_pos hpe, if_pos (by omega), show m - 1 - p = e by omega]
    · rw [if_neg hpe, rowB_get m n e p h2]
      by_cases h : m - 1 - p < e
      · rw [if_pos h, if_pos (by omega)]
      · rw [if_neg h, if_neg (by omega)]
theorem rowB_stable (b : ByteArray) (m i e : Nat) (h : 5 * e ≤ 8 * i) : rowB m (numN b (i + 1)) e = rowB m (numN b i) e := by
  unfold rowB
  apply List.map_congr_left
  intro p hp
  by_cases hpe : m - 1 - p < e
  · rw [if_pos hpe, if_pos hpe, digit_stable b i _ (by omega)]
  · rw [if_neg hpe, if_neg hpe]
theorem rowB_zero (m n : Nat) : rowB m n 0 = List.replicate m 0 := by
  apply List.ext_getElem
  · simp [rowB]
  · intro p h1 h2
    simp [rowB]
def b32 (b : ByteArray) : ByteArray := strOfNums (rowB ((8 * b.size + 4) / 5) (numN b b.size) ((8 * b.size + 4) / 5))
theorem or_shift (a c held : Nat) (ha : a < 2 ^ held) (hc : c < 256) (hh : held < 5) : Go.bits .or .u64 (a : Int) (shl .u64 (IntKind.u64.wrap (c : Int)) (held : Int)) = ((a + c * 2 ^ held : Nat) : Int) := by
  have hp : 2 ^ held ≤ 2 ^ 4 := Nat.pow_le_pow_right (by omega) (by omega)
  have hm : c * 2 ^ held ≤ 255 * 16 := Nat.mul_le_mul (by omega) hp
  have w1 : IntKind.u64.wrap (c : Int) = c := by simp [IntKind.wrap, IntKind.bits, IntKind.signed]; omega
  have e1 : shl .u64 (c : Int) (held : Int) = ((c * 2 ^ held : Nat) : Int) := by
    unfold shl
    rw [Int.toNat_natCast, show IntKind.bits .u64 = 64 from rfl, Nat.min_eq_left (by omega)]
    have : ((c : Int) * 2 ^ held) = ((c * 2 ^ held : Nat) : Int) := by push_cast; rfl
    rw [this]
    simp [IntKind.wrap, IntKind.bits, IntKind.signed]
    omega
  rw [w1, e1, u64_or_nat _ _ (by omega) (by omega), Nat.or_comm, Nat.mul_comm, ← Nat.two_pow_add_eq_or_of_lt ha, Nat.add_comm]
theorem and31 (a : Nat) (ha : a < 18446744073709551616) : Go.bits .and .u64 (a : Int) 31 = ((a % 32 : Nat) : Int) := by
  have := u64_and_nat a 31 ha (by omega)
  rw [show ((31 : Nat) : Int) = 31 from rfl] at this
  rw [this]
  congr 1
  exact Nat.and_two_pow_sub_one_eq_mod a 5
theorem w64_nat (x : Int) (n : Nat) (h : x = n) (hn : n < 9223372036854775808) : wrap64 x = n := by
  subst h
  unfold wrap64
  omega
theorem u64w (x : Int) (h0 : 0 ≤ x) (h1 : x < 18446744073709551616) : IntKind.u64.wrap x = x := by simp [IntKind.wrap, IntKind.bits, IntKind.signed]; omega
end Go.Proofs.Ytjbjdccnbjddjaa
