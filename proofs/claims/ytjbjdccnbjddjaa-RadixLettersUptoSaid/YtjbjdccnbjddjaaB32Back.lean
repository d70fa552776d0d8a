import Derived.Test.YtjbjdccnbjddjaaB32Math
namespace Go.Proofs.Ytjbjdccnbjddjaa
open Go.RowKit Go.Proofs.YtjbjdccnbjddjaaW.PrintWords Go.Proofs.YtjbjdccnbjddjaaW.PrintMore

/-! ### What FromBase32 gathers is the letters' number -/
def valN (s : ByteArray) : Nat → Nat
  | 0 => 0
  | j + 1 => valN s j + (valAt s j).toNat * 32 ^ j
theorem valAt_lt (s : ByteArray) (j : Nat) : (valAt s j).toNat < 32 := by have := letterOf_hi (bt s ((s.size : Int) - 1 - j)); unfold valAt; omega
theorem valN_lt (s : ByteArray) (j : Nat) : valN s j < 32 ^ j := by
  induction j with
  | zero => simp [valN]
  | succ j ih =>
    have h : (valAt s j).toNat * 32 ^ j ≤ 31 * 32 ^ j := Nat.mul_le_mul_right _ (by have := valAt_lt s j; omega)
    rw [valN, Nat.pow_succ, Nat.mul_comm (32 ^ j)]
    omega
theorem pow_split (j : Nat) : 32 ^ j = 256 ^ (5 * j / 8) * 2 ^ (5 * j % 8) := by
  rw [pow256, pow32, ← Nat.pow_add]
  congr 1
  omega
theorem valN_acc (s : ByteArray) (j : Nat) : valN s (j + 1) / 256 ^ (5 * j / 8) = valN s j / 256 ^ (5 * j / 8) + (valAt s j).toNat * 2 ^ (5 * j % 8) := by
  rw [valN, pow_split, Nat.mul_left_comm, Nat.add_mul_div_left _ _ (Nat.pow_pos (by omega))]
theorem valN_low (s : ByteArray) (j i : Nat) (h : 8 * (i + 1) ≤ 5 * j) : valN s (j + 1) / 256 ^ i % 256 = valN s j / 256 ^ i % 256 := by
  have e : 32 ^ j = 256 ^ i * (256 * 2 ^ (5 * j - 8 * (i + 1))) := by
    rw [pow256, pow32, show (256 : Nat) = 2 ^ 8 from rfl, ← Nat.pow_add, ← Nat.pow_add]
    congr 1
    omega
  have e2 : valN s (j + 1) = valN s j + 256 ^ i * (256 * ((valAt s j).toNat * 2 ^ (5 * j - 8 * (i + 1)))) := by
    rw [valN, e]
    congr 1
    rw [Nat.mul_left_comm, Nat.mul_left_comm ((valAt s j).toNat)]
  rw [e2, Nat.add_mul_div_left _ _ (Nat.pow_pos (by omega)), Nat.add_mul_mod_self_left]
/-- The bytes of a number, the lowest first. -/
def bytesN (v k : Nat) : List Int := (List.range k).map fun i => ((v / 256 ^ i % 256 : Nat) : Int)
theorem bytesN_length (v k : Nat) : (bytesN v k).length = k := by simp [bytesN]
theorem bytesN_succ (v k : Nat) : bytesN v (k + 1) = bytesN v k ++ [((v / 256 ^ k % 256 : Nat) : Int)] := by simp [bytesN, List.range_succ]
theorem bytesN_congr (v u k : Nat) (h : ∀ i, i < k → v / 256 ^ i % 256 = u / 256 ^ i % 256) : bytesN v k = bytesN u k := by
  unfold bytesN
  apply List.map_congr_left
  intro i hi
  rw [h i (List.mem_range.1 hi)]
theorem gathered (s : ByteArray) (j : Nat) (hg : lettersGood s j) : unAcc s j = ((valN s j / 256 ^ (5 * j / 8) : Nat) : Int) ∧ unOut s j = bytesN (valN s j) (5 * j / 8) := by
  induction j with
  | zero => exact ⟨by simp [unAcc, valN], by simp [unOut, bytesN]⟩
  | succ j ih =>
    obtain ⟨h1, h2⟩ := ih (fun i hi => hg i (by omega))
    have hv : valAt s j = ((valAt s j).toNat : Int) := (Int.toNat_of_nonneg (hg j (by omega))).symm
    have hy : unAcc s j + valAt s j * 2 ^ (5 * j % 8) = ((valN s (j + 1) / 256 ^ (5 * j / 8) : Nat) : Int) := by
      rw [h1, valN_acc]
      generalize valN s j / 256 ^ (5 * j / 8) = u
      generalize 5 * j % 8 = h
      generalize (valAt s j).toNat = x at hv ⊢
      rw [hv, Int.natCast_add, Int.natCast_mul, Int.natCast_pow]
      rfl
    rw [unAcc, unOut, hy]
    by_cases h8 : 5 * j % 8 + 5 < 8
    · rw [if_pos h8, if_pos h8, show 5 * (j + 1) / 8 = 5 * j / 8 by omega]
      exact ⟨rfl, h2.trans (bytesN_congr _ _ _ fun i hi => (valN_low s j i (by omega)).symm)⟩
    · rw [if_neg h8, if_neg h8, show 5 * (j + 1) / 8 = 5 * j / 8 + 1 by omega]
      refine ⟨?_, ?_⟩
      · rw [Nat.pow_succ, ← Nat.div_div_eq_div_mul]
        omega
      · rw [bytesN_succ, h2, bytesN_congr _ _ _ fun i hi => (valN_low s j i (by omega)).symm]
        rfl

/-! ### A text's number tells the text -/
theorem numN_low (b : ByteArray) (n i : Nat) (h : i < n) : numN b n / 256 ^ i % 256 = byteN b i := by
  induction n with
  | zero => omega
  | succ n ih =>
    rcases Nat.lt_or_ge i n with hi | hi
    · have e : 256 ^ n = 256 ^ i * (256 * 256 ^ (n - i - 1)) := by
        rw [← Nat.mul_assoc, ← Nat.pow_succ, ← Nat.pow_add]
        congr 1
        omega
      have e2 : numN b (n + 1) = numN b n + 256 ^ i * (256 * (byteN b n * 256 ^ (n - i - 1))) := by
        rw [numN, e]
        congr 1
        rw [Nat.mul_left_comm, Nat.mul_left_comm (byteN b n)]
      rw [e2, Nat.add_mul_div_left _ _ (Nat.pow_pos (by omega)), Nat.add_mul_mod_self_left, ih hi]
    · obtain rfl : i = n := by omega
      rw [numN, Nat.add_mul_div_right _ _ (Nat.pow_pos (by omega)), Nat.div_eq_of_lt (numN_lt b i), Nat.zero_add, Nat.mod_eq_of_lt (byteN_lt b i)]
theorem strOfNums_bytesN (b : ByteArray) : strOfNums (bytesN (numN b b.size) b.size) = b := by
  have hz : (strOfNums (bytesN (numN b b.size) b.size)).size = b.size := by rw [strOfNums_size, bytesN_length]
  refine byteArray_ext hz fun j hj => ?_
  rw [hz] at hj
  have e : rd (bytesN (numN b b.size) b.size) (j : Int) = bt b j := by
    rw [← byteN_bt, ← numN_low b b.size j hj]
    simp [rd, bytesN, List.getD_eq_getElem?_getD, hj]
  rw [bt_strOfNums _ _ (by rw [bytesN_length]; exact hj) (by rw [e]; exact byte_bt _ _), e]
theorem numN_bytesN (v n : Nat) (k : Nat) (hk : k ≤ n) : numN (strOfNums (bytesN v n)) k = v % 256 ^ k := by
  induction k with
  | zero => simp [numN, Nat.mod_one]
  | succ k ih =>
    have e : rd (bytesN v n) (k : Int) = ((v / 256 ^ k % 256 : Nat) : Int) := by simp [rd, bytesN, List.getD_eq_getElem?_getD, show k < n by omega]
    have hb : byteN (strOfNums (bytesN v n)) k = v / 256 ^ k % 256 := by
      unfold byteN
      rw [bt_strOfNums _ _ (by rw [bytesN_length]; omega) (by rw [e]; have := Nat.mod_lt (v / 256 ^ k) (show 0 < 256 by omega); exact ⟨by omega, by omega⟩), e]
      rfl
    rw [numN, ih (by omega), hb, Nat.mod_pow_succ, Nat.mul_comm (256 ^ k)]

/-! ### Letters -/
theorem letters_back : ∀ d : Fin 32, letterOf (lt d.val) = (d.val : Int) ∧ Byte (lt d.val) := by unfold Byte; decide +kernel
theorem letters_are : ∀ c : Fin 256, letterOf (c.val : Int) < 0 ∨ bt letterText (letterOf (c.val : Int)) = (c.val : Int) := by decide +kernel
theorem lt_byte (d : Nat) (h : d < 32) : Byte (lt d) := (letters_back ⟨d, h⟩).2
theorem letterOf_lt (d : Nat) (h : d < 32) : letterOf (lt d) = d := (letters_back ⟨d, h⟩).1
theorem lt_letterOf (s : ByteArray) (i : Int) (h : 0 ≤ letterOf (bt s i)) : lt (letterOf (bt s i)).toNat = bt s i := by
  obtain ⟨h0, h1⟩ := bt_range s i
  have := letters_are ⟨(bt s i).toNat, by omega⟩
  simp only [show (((bt s i).toNat : Nat) : Int) = bt s i by omega] at this
  rcases this with h2 | h2
  · omega
  · unfold lt
    rw [show (((letterOf (bt s i)).toNat : Nat) : Int) = letterOf (bt s i) by omega]
    exact h2
theorem b32_size (b : ByteArray) : (b32 b).size = (8 * b.size + 4) / 5 := by rw [b32, strOfNums_size, rowB_length]
theorem bt_b32 (b : ByteArray) (p : Nat) (hp : p < (8 * b.size + 4) / 5) : bt (b32 b) p = lt (numN b b.size / 32 ^ ((8 * b.size + 4) / 5 - 1 - p) % 32) := by
  have e : rd (rowB ((8 * b.size + 4) / 5) (numN b b.size) ((8 * b.size + 4) / 5)) (p : Int) = lt (numN b b.size / 32 ^ ((8 * b.size + 4) / 5 - 1 - p) % 32) := by
    have hg := rowB_get ((8 * b.size + 4) / 5) (numN b b.size) ((8 * b.size + 4) / 5) p hp
    rw [if_pos (by omega)] at hg
    rw [← hg]
    simp [rd, List.getD_eq_getElem?_getD, rowB_length, hp]
  rw [b32, bt_strOfNums _ _ (by rw [rowB_length]; exact hp) (by rw [e]; exact lt_byte _ (Nat.mod_lt _ (by omega))), e]
/-- FromBase32 of Base32. -/
theorem valAt_b32 (b : ByteArray) (j : Nat) (hj : j < (8 * b.size + 4) / 5) : valAt (b32 b) j = ((numN b b.size / 32 ^ j % 32 : Nat) : Int) := by
  unfold valAt
  rw [b32_size, show (((8 * b.size + 4) / 5 : Nat) : Int) - 1 - j = (((8 * b.size + 4) / 5 - 1 - j : Nat) : Int) by omega, bt_b32 b _ (by omega), letterOf_lt _ (Nat.mod_lt _ (by omega)),
    show (8 * b.size + 4) / 5 - 1 - ((8 * b.size + 4) / 5 - 1 - j) = j by omega]
theorem valN_b32 (b : ByteArray) (j : Nat) (hj : j ≤ (8 * b.size + 4) / 5) : valN (b32 b) j = numN b b.size % 32 ^ j := by
  induction j with
  | zero => simp [valN, Nat.mod_one]
  | succ j ih =>
    rw [valN, ih (by omega), valAt_b32 b j (by omega), Int.toNat_natCast, Nat.mod_pow_succ, Nat.mul_comm (32 ^ j)]
theorem fromBase32_b32 (b : ByteArray) (hb : b.size ≤ 140737488351232) : radix_FromBase32.f (b32 b) = some (b, 0) := by
  have hg : lettersGood (b32 b) (b32 b).size := fun i hi => by
    rw [b32_size] at hi
    rw [valAt_b32 b i hi]
    omega
  obtain ⟨h1, h2⟩ := gathered (b32 b) (b32 b).size hg
  have hn : 5 * ((8 * b.size + 4) / 5) / 8 = b.size := by omega
  have hv : valN (b32 b) ((8 * b.size + 4) / 5) = numN b b.size := by
    rw [valN_b32 b _ (Nat.le_refl _), Nat.mod_eq_of_lt]
    refine Nat.lt_of_lt_of_le (numN_lt b b.size) ?_
    rw [pow256, pow32]
    exact Nat.pow_le_pow_right (by omega) (by omega)
  rw [b32_size, hn, hv] at h1 h2
  unfold radix_FromBase32.f
  have hle : (8 * b.size + 4) / 5 ≤ 281474976710656 := by omega
  rw [b32_size, if_pos hle, if_neg (by rw [hn]; simp), if_pos (by rw [← b32_size]; exact hg), h1, h2, if_neg (by rw [Nat.div_eq_of_lt (numN_lt b b.size)]; simp), strOfNums_bytesN]
/-- Base32 of what FromBase32 took. -/
theorem b32_fromBase32 (s y : ByteArray) (h : radix_FromBase32.f s = some (y, 0)) : b32 y = s ∧ 5 * s.size / 8 = y.size := by
  unfold radix_FromBase32.f at h
  by_cases hs : s.size ≤ 281474976710656
  case neg => rw [if_neg hs] at h; cases h
  rw [if_pos hs] at h
  by_cases hl : (8 * (5 * s.size / 8) + 4) / 5 ≠ s.size
  case pos => rw [if_pos hl] at h; simp at h
  rw [if_neg hl] at h
  by_cases hg : lettersGood s s.size
  case neg => rw [if_neg hg] at h; simp at h
  rw [if_pos hg] at h
  by_cases ha : unAcc s s.size ≠ 0
  case pos => rw [if_pos ha] at h; simp at h
  rw [if_neg ha] at h
  obtain ⟨h1, h2⟩ := gathered s s.size hg
  have hy : strOfNums (unOut s s.size) = y := by simpa using h
  rw [h2] at hy
  have hl : (8 * (5 * s.size / 8) + 4) / 5 = s.size := by omega
  generalize hn : 5 * s.size / 8 = n at *
  have hz : valN s s.size < 256 ^ n := by
    have h3 : valN s s.size / 256 ^ n = 0 := by omega
    rcases Nat.div_eq_zero_iff.1 h3 with h4 | h4
    · have : 0 < 256 ^ n := Nat.pow_pos (by omega)
      omega
    · exact h4
  have hys : y.size = n := by rw [← hy, strOfNums_size, bytesN_length]
  have hnum : numN y y.size = valN s s.size := by
    rw [hys, ← hy, numN_bytesN _ _ _ (Nat.le_refl _), Nat.mod_eq_of_lt hz]
  refine ⟨?_, hys.symm⟩
  have hbs : (b32 y).size = s.size := by rw [b32_size, hys, hl]
  have low : ∀ (k j : Nat), j < k → k ≤ s.size → valN s k / 32 ^ j % 32 = (valAt s j).toNat := by
    intro k
    induction k with
    | zero => intro j hj _; omega
    | succ k ih =>
      intro j hj hk
      rcases Nat.lt_or_ge j k with hi | hi
      · have e : 32 ^ k = 32 ^ j * (32 * 32 ^ (k - j - 1)) := by
          rw [← Nat.mul_assoc, ← Nat.pow_succ, ← Nat.pow_add]
          congr 1
          omega
        have e2 : valN s (k + 1) = valN s k + 32 ^ j * (32 * ((valAt s k).toNat * 32 ^ (k - j - 1))) := by
          rw [valN, e]
          congr 1
          rw [Nat.mul_left_comm, Nat.mul_left_comm ((valAt s k).toNat)]
        rw [e2, Nat.add_mul_div_left _ _ (Nat.pow_pos (by omega)), Nat.add_mul_mod_self_left, ih j hi (by omega)]
      · obtain rfl : j = k := by omega
        rw [valN, Nat.add_mul_div_right _ _ (Nat.pow_pos (by omega)), Nat.div_eq_of_lt (valN_lt s j), Nat.zero_add, Nat.mod_eq_of_lt (valAt_lt s j)]
  refine byteArray_ext hbs fun p hp => ?_
  rw [hbs] at hp
  have hm : (8 * y.size + 4) / 5 = s.size := by rw [hys, hl]
  rw [bt_b32 y p (by omega), hm, hnum, low s.size _ (by omega) (Nat.le_refl _)]
  have hv := hg (s.size - 1 - p) (by omega)
  unfold valAt at hv ⊢
  rw [show (s.size : Int) - 1 - ((s.size - 1 - p : Nat) : Int) = (p : Int) by omega] at hv ⊢
  exact lt_letterOf s p hv
end Go.Proofs.Ytjbjdccnbjddjaa
