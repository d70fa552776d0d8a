/- Every Base32, every FromBase32, every Value: for all texts b and s of bulk at most 1048576 and every byte c the program's radix.Base32, radix.FromBase32 and radix.Value answer as the document's do. -/
import Derived.Test.YtjbjdccnbjddjaaPRadixLettersx3
import Derived.Test.YtjbjdccnbjddjaaB32Back
namespace Go.Proofs.Ytjbjdccnbjddjaa.Pure
set_option linter.unusedVariables false
open Go.RowKit Go.Proofs.Ytjbjdccnbjddjaa.PRadixLetters Go.Proofs.YtjbjdccnbjddjaaW.PrintWords Go.Proofs.YtjbjdccnbjddjaaW.PrintLast Go.Proofs.YtjbjdccnbjddjaaW.PrintMore

theorem b32_loop (b : ByteArray) (hb : b.size ≤ 140737488351232) (m : Nat) (hm : (8 * b.size + 4) / 5 = m) (d : Nat) :
    (∀ i e held k : Nat, i ≤ b.size → 5 * e + held = 8 * i → held < 5 → 3 * (b.size - i) + (m - e) + 1 ≤ d → d < k →
      radix_Base32.l0 k b (rowB m (numN b i) e) ((numN b i / 32 ^ e : Nat) : Int) (held : Int) ((m : Int) - e) (b.size : Int) (i : Int) = some (b32 b)) ∧
    (∀ i e held k : Nat, i < b.size → 5 * e + held = 8 * (i + 1) → held ≤ 12 → 3 * (b.size - (i + 1)) + (m - e) + 2 ≤ d → d < k →
      radix_Base32.l1 k b (rowB m (numN b (i + 1)) e) ((numN b (i + 1) / 32 ^ e : Nat) : Int) (held : Int) ((m : Int) - e) (b.size : Int) (i : Int) = some (b32 b)) := by
  induction d with
  | zero => exact ⟨fun i e held k _ _ _ h => by omega, fun i e held k _ _ _ h => by omega⟩
  | succ d ih =>
    obtain ⟨ih0, ih1⟩ := ih
    refine ⟨?_, ?_⟩
    · intro i e held k hi he hh hd hk
      obtain ⟨k, rfl⟩ : ∃ q, k = q + 1 := ⟨k - 1, by omega⟩
      have ha := acc_lt b i e held he
      have hp : 2 ^ held ≤ 2 ^ 4 := Nat.pow_le_pow_right (by omega) (by omega)
      simp only [radix_Base32.l0]
      by_cases hlt : i < b.size
      · have w8 : IntKind.u64.wrap ((held : Int) + 8) = ((held + 8 : Nat) : Int) := by rw [u64w _ (by omega) (by omega)]; push_cast; rfl
        rw [if_pos (by omega), if_pos (by omega), if_pos (by omega), if_pos (by omega), ← byteN_bt, or_shift _ _ _ ha (byteN_lt b i) hh, ← acc_step b i e held he, w8, ← rowB_stable b m i e (by omega)]
        exact ih1 i e (held + 8) k hlt (by omega) (by omega) (by omega) (by omega)
      · obtain rfl : i = b.size := by omega
        rw [if_neg (by omega)]
        by_cases hz : held = 0
        · rw [if_neg (by omega)]
          have : e = m := by omega
          rw [this, b32, hm]
        · have w1 : wrap64 ((m : Int) - e - 1) = ((m - 1 - e : Nat) : Int) := w64_nat _ _ (by omega) (by omega)
          rw [if_pos (by omega), and31 _ (by omega), if_pos (by omega), if_pos (by omega), w1, rowB_length, if_pos (by omega), if_pos (by omega), Int.toNat_natCast]
          rw [show bt (⟨#[48, 49, 50, 51, 52, 53, 54, 55, 56, 57, 97, 98, 99, 100, 102, 103, 104, 105, 106, 107, 108, 109, 110, 112, 113, 114, 115, 118, 119, 120, 121, 122]⟩ : ByteArray) ((numN b b.size / 32 ^ e % 32 : Nat) : Int) = lt (numN b b.size / 32 ^ e % 32) from rfl, rowB_set _ _ _ (by omega)]
          have : e + 1 = m := by omega
          rw [this, b32, hm]
    · intro i e held k hi he hh hd hk
      obtain ⟨k, rfl⟩ : ∃ q, k = q + 1 := ⟨k - 1, by omega⟩
      have ha := acc_lt b (i + 1) e held he
      have hp : 2 ^ held ≤ 2 ^ 12 := Nat.pow_le_pow_right (by omega) hh
      simp only [radix_Base32.l1]
      by_cases h5 : 5 ≤ held
      · have w1 : wrap64 ((m : Int) - e - 1) = ((m - 1 - e : Nat) : Int) := w64_nat _ _ (by omega) (by omega)
        have w5 : IntKind.u64.wrap ((held : Int) - 5) = ((held - 5 : Nat) : Int) := by rw [u64w _ (by omega) (by omega)]; omega
        rw [if_pos (by omega), and31 _ (by omega), if_pos (by omega), if_pos (by omega), w1, rowB_length, if_pos (by omega), if_pos (by omega), Int.toNat_natCast, w5]
        rw [show bt (⟨#[48, 49, 50, 51, 52, 53, 54, 55, 56, 57, 97, 98, 99, 100, 102, 103, 104, 105, 106, 107, 108, 109, 110, 112, 113, 114, 115, 118, 119, 120, 121, 122]⟩ : ByteArray) ((numN b (i + 1) / 32 ^ e % 32 : Nat) : Int) = lt (numN b (i + 1) / 32 ^ e % 32) from rfl, rowB_set _ _ _ (by omega)]
        have e1 : ((numN b (i + 1) / 32 ^ e : Nat) : Int) / 32 = ((numN b (i + 1) / 32 ^ (e + 1) : Nat) : Int) := by
          rw [Nat.pow_succ, ← Nat.div_div_eq_div_mul]
          omega
        rw [e1, show ((m - 1 - e : Nat) : Int) = (m : Int) - ((e + 1 : Nat) : Int) by omega]
        exact ih1 i (e + 1) (held - 5) k hi (by omega) (by omega) (by omega) (by omega)
      · clear ha hp ih1
        clear hm
        have w1 : wrap64 ((i : Int) + 1) = ((i + 1 : Nat) : Int) := w64_nat _ _ (by omega) (by omega)
        have hn5 : ¬ ((held : Int) ≥ 5) := by omega
        rw [if_neg hn5, w1]
        exact ih0 (i + 1) e held k (by omega) (by omega) (by omega) (by omega) (by omega)
theorem b32_is (b : ByteArray) (hb : b.size ≤ 140737488351232) (k : Nat) (hk : 3 * b.size + (8 * b.size + 4) / 5 + 1 < k) : radix_Base32.f k b = some (b32 b) := by
  have w : wrap64 (Int.tdiv (wrap64 ((wrap64 (8 * (b.size : Int))) + 4)) 5) = (((8 * b.size + 4) / 5 : Nat) : Int) := by
    have w1 : wrap64 (8 * (b.size : Int)) = ((8 * b.size : Nat) : Int) := w64_nat _ _ (by omega) (by omega)
    have w2 : wrap64 (((8 * b.size : Nat) : Int) + 4) = ((8 * b.size + 4 : Nat) : Int) := w64_nat _ _ (by omega) (by omega)
    rw [w1, w2, Int.tdiv_eq_ediv_of_nonneg (by omega)]
    exact w64_nat _ _ (by omega) (by omega)
  unfold radix_Base32.f
  rw [w, if_pos (by omega), if_pos (by omega), Int.toNat_natCast]
  have := (b32_loop b hb _ rfl (3 * b.size + (8 * b.size + 4) / 5 + 1)).1 0 0 0 k (Nat.zero_le _) rfl (by omega) (by omega) (by omega)
  simpa [numN, rowB_zero] using this
theorem b32_probe : (b32 (⟨#[255]⟩ : ByteArray)).toList = [55, 122] := by decide +kernel

/-! ### Value -/
theorem value_all : ∀ c : Fin 256, depotref02_Value.f 33 (c.val : Int) = some (letterOf (c.val : Int)) := by decide +kernel
theorem value_is (c : Int) (h0 : 0 ≤ c) (h1 : c < 256) (k : Nat) (hk : 33 ≤ k) : depotref02_Value.f k c = some (letterOf c) := by
  have := value_all ⟨c.toNat, by omega⟩
  simp only [show ((c.toNat : Nat) : Int) = c by omega] at this
  exact at_rounds (g := fun k => depotref02_Value.f k c) (fun k => depotref02_Value.mono c k) hk this

/-! ### The bits of a number -/
def bitN (v q : Nat) : Nat := v / 2 ^ q % 2
theorem bitN_lt (v q : Nat) : bitN v q < 2 := Nat.mod_lt _ (by omega)
def bitsL (v n : Nat) : List Int := (List.range n).map fun q => ((bitN v q : Nat) : Int)
theorem bitsL_length (v n : Nat) : (bitsL v n).length = n := by simp [bitsL]
theorem bitsL_succ (v n : Nat) : bitsL v (n + 1) = bitsL v n ++ [((bitN v n : Nat) : Int)] := by simp [bitsL, List.range_succ]
theorem bitsL_rd (v n q : Nat) (h : q < n) : rd (bitsL v n) (q : Int) = ((bitN v q : Nat) : Int) := by simp [rd, bitsL, List.getD_eq_getElem?_getD, h]
theorem bitsL_congr (v u n : Nat) (h : ∀ q, q < n → bitN v q = bitN u q) : bitsL v n = bitsL u n := by
  unfold bitsL
  apply List.map_congr_left
  intro q hq
  rw [h q (List.mem_range.1 hq)]
theorem bit_of_part (v m r t : Nat) (ht : t < r) : bitN (v / 2 ^ m % 2 ^ r) t = bitN v (m + t) := by
  unfold bitN
  rw [Nat.pow_add, ← Nat.div_div_eq_div_mul]
  generalize v / 2 ^ m = u
  have e : 2 ^ r = 2 ^ t * (2 * 2 ^ (r - t - 1)) := by
    rw [← Nat.mul_assoc, ← Nat.pow_succ, ← Nat.pow_add]
    congr 1
    omega
  rw [e, Nat.mod_mul_right_div_self, Nat.mod_mul_right_mod]
theorem byte_bit (b : ByteArray) (i t : Nat) (hi : i < b.size) (ht : t < 8) : bitN (byteN b i) t = bitN (numN b b.size) (8 * i + t) := by
  have := bit_of_part (numN b b.size) (8 * i) 8 t ht
  rw [← this, ← pow256, show 2 ^ 8 = 256 from rfl, numN_low b b.size i hi]

theorem half_step (x t : Nat) (hx : x < 9223372036854775808) : wrap64 (Int.tdiv ((x / 2 ^ t : Nat) : Int) 2) = ((x / 2 ^ (t + 1) : Nat) : Int) := by
  refine w64_nat _ _ ?_ (Nat.lt_of_le_of_lt (Nat.div_le_self x _) hx)
  rw [Nat.pow_succ, ← Nat.div_div_eq_div_mul]
  rfl
/-! ### bits -/
theorem bits_loop (b : ByteArray) (hb : b.size ≤ 1048576) (d : Nat) :
    (∀ i k : Nat, i ≤ b.size → 10 * (b.size - i) + 1 ≤ d → d < k → depotref02_bits.l0 k b (bitsL (numN b b.size) (8 * i)) (i : Int) = some (bitsL (numN b b.size) (8 * b.size))) ∧
    (∀ i t k : Nat, i < b.size → t ≤ 8 → 10 * (b.size - (i + 1)) + (8 - t) + 2 ≤ d → d < k →
      depotref02_bits.l1 k b (bitsL (numN b b.size) (8 * i + t)) (i : Int) ((byteN b i / 2 ^ t : Nat) : Int) (t : Int) = some (bitsL (numN b b.size) (8 * b.size))) := by
  induction d with
  | zero => exact ⟨fun i k _ h => by omega, fun i t k _ _ h => by omega⟩
  | succ d ih =>
    obtain ⟨ih0, ih1⟩ := ih
    refine ⟨?_, ?_⟩
    · intro i k hi hd hk
      obtain ⟨k, rfl⟩ : ∃ q, k = q + 1 := ⟨k - 1, by omega⟩
      simp only [depotref02_bits.l0]
      by_cases hlt : i < b.size
      · have w1 : wrap64 (bt b i) = ((byteN b i / 2 ^ 0 : Nat) : Int) := by
          rw [Nat.pow_zero, Nat.div_one]
          exact w64_nat _ _ (byteN_bt b i).symm (by have := byteN_lt b i; omega)
        rw [if_pos (by omega), if_pos (by omega), w1]
        exact ih1 i 0 k hlt (by omega) (by omega) (by omega)
      · obtain rfl : i = b.size := by omega
        rw [if_neg (by omega)]
    · intro i t k hi ht hd hk
      obtain ⟨k, rfl⟩ : ∃ q, k = q + 1 := ⟨k - 1, by omega⟩
      simp only [depotref02_bits.l1]
      by_cases h8 : t < 8
      · have hlt : (bitsL (numN b b.size) (8 * i + t)).length < 17592186044416 := by rw [bitsL_length]; omega
        have w1 : wrap64 ((t : Int) + 1) = ((t + 1 : Nat) : Int) := w64_nat _ _ (by omega) (by omega)
        have c1 : (t : Int) < 8 := by omega
        have goal := ih1 i (t + 1) k hi (by omega) (by omega) (by omega)
        have hm : Int.tmod ((byteN b i / 2 ^ t : Nat) : Int) 2 = ((bitN (numN b b.size) (8 * i + t) : Nat) : Int) := by
          rw [← byte_bit b i t hi h8]
          rfl
        rw [if_pos c1, if_pos hlt, hm, half_step _ t (Nat.lt_of_lt_of_le (byteN_lt b i) (by decide)), w1, ← bitsL_succ]
        exact goal
      · obtain rfl : t = 8 := by omega
        have w1 : wrap64 ((i : Int) + 1) = ((i + 1 : Nat) : Int) := w64_nat _ _ (by omega) (by omega)
        rw [if_neg (by omega), w1, show 8 * i + 8 = 8 * (i + 1) by omega]
        exact ih0 (i + 1) k (by omega) (by omega) (by omega)
theorem bits_is (b : ByteArray) (hb : b.size ≤ 1048576) (k : Nat) (hk : 10 * b.size + 1 < k) : depotref02_bits.f k b = some (bitsL (numN b b.size) (8 * b.size)) :=
  (bits_loop b hb (10 * b.size + 1)).1 0 k (Nat.zero_le _) (by omega) (by omega)

/-! ### Base32 -/
def lettersUp (v n : Nat) : List Int := (List.range n).map fun p => lt (v / 32 ^ p % 32)
theorem lettersUp_length (v n : Nat) : (lettersUp v n).length = n := by simp [lettersUp]
theorem lettersUp_succ (v n : Nat) : lettersUp v (n + 1) = lettersUp v n ++ [lt (v / 32 ^ n % 32)] := by simp [lettersUp, List.range_succ]
theorem lettersUp_rd (v n p : Nat) (h : p < n) : rd (lettersUp v n) (p : Int) = lt (v / 32 ^ p % 32) := by simp [rd, lettersUp, List.getD_eq_getElem?_getD, h]
theorem part_step (v q r : Nat) : v / 2 ^ q % 2 ^ (r + 1) = v / 2 ^ (q + 1) % 2 ^ r * 2 + bitN v q := by
  unfold bitN
  rw [Nat.pow_succ 2 q, ← Nat.div_div_eq_div_mul]
  generalize v / 2 ^ q = u
  rw [Nat.pow_succ, Nat.mul_comm (2 ^ r) 2, Nat.mod_mul]
  omega
theorem part_small (v q r : Nat) (hr : r ≤ 4) : v / 2 ^ q % 2 ^ r < 16 := by
  have h1 := Nat.mod_lt (v / 2 ^ q) (show 0 < 2 ^ r from Nat.pow_pos (by decide))
  have h2 : 2 ^ r ≤ 2 ^ 4 := Nat.pow_le_pow_right (by decide) hr
  exact Nat.lt_of_lt_of_le h1 h2
theorem part_wrap (v q r : Nat) (hr : r ≤ 4) (q' : Nat) (hq : q + 1 = q') :
    wrap64 (wrap64 (((v / 2 ^ q' % 2 ^ r : Nat) : Int) * 2) + ((bitN v q : Nat) : Int)) = ((v / 2 ^ q % 2 ^ (r + 1) : Nat) : Int) := by
  subst hq
  have hs := part_step v q r
  have hx := part_small v (q + 1) r hr
  have hb := bitN_lt v q
  rw [hs]
  generalize v / 2 ^ (q + 1) % 2 ^ r = x at hx
  generalize bitN v q = y at hb
  unfold wrap64
  omega
theorem part_wrap0 (v q r : Nat) (hr : r ≤ 4) (q' : Nat) (hq : q + 1 = q') (hz : v / 2 ^ q = 0) :
    wrap64 (((v / 2 ^ q' % 2 ^ r : Nat) : Int) * 2) = ((v / 2 ^ q % 2 ^ (r + 1) : Nat) : Int) := by
  subst hq
  have hs := part_step v q r
  have hb : bitN v q = 0 := by
    unfold bitN
    rw [hz]
  have hx := part_small v (q + 1) r hr
  rw [hs, hb]
  generalize v / 2 ^ (q + 1) % 2 ^ r = x at hx
  unfold wrap64
  omega
theorem turn_loop (v m : Nat) (hm : m ≤ 10000000) (d : Nat) : ∀ i k : Nat, i + d = m → d < k → depotref02_Base32.l2 k (lettersUp v m) (rowB m v i) (i : Int) = some (strOfNums (rowB m v m)) := by
  induction d with
  | zero =>
    intro i k hi hk
    obtain ⟨k, rfl⟩ : ∃ q, k = q + 1 := ⟨k - 1, by omega⟩
    obtain rfl : i = m := by omega
    simp only [depotref02_Base32.l2, lettersUp_length]
    rw [if_neg (by omega)]
  | succ d ih =>
    intro i k hi hk
    obtain ⟨k, rfl⟩ : ∃ q, k = q + 1 := ⟨k - 1, by omega⟩
    have w1 : wrap64 ((m : Int) - 1) = ((m - 1 : Nat) : Int) := w64_nat _ _ (by omega) (by omega)
    have w2 : wrap64 (((m - 1 : Nat) : Int) - i) = ((m - 1 - i : Nat) : Int) := w64_nat _ _ (by omega) (by omega)
    have w3 : wrap64 ((i : Int) + 1) = ((i + 1 : Nat) : Int) := w64_nat _ _ (by omega) (by omega)
    simp only [depotref02_Base32.l2, lettersUp_length, w1, w2, w3, rowB_length, Int.toNat_natCast]
    rw [if_pos (by omega), if_pos (by omega), if_pos (by omega), if_pos (by omega), lettersUp_rd _ _ _ (by omega), rowB_set _ _ _ (by omega)]
    exact ih (i + 1) k (by omega) (by omega)
theorem ref_b32_loop (v n m : Nat) (hv : Aside0 (v < 2 ^ (8 * n))) (hn : n ≤ 1048576) (hm : (8 * n + 4) / 5 = m) (d : Nat) :
    (∀ j k : Nat, j ≤ m → 8 * (m - j) + m + 2 ≤ d → d < k → depotref02_Base32.l0 k (bitsL v (8 * n)) (lettersUp v j) ((5 * j : Nat) : Int) = some (strOfNums (rowB m v m))) ∧
    (∀ j r k : Nat, j < m → r ≤ 5 → 8 * (m - (j + 1)) + r + m + 4 ≤ d → d < k →
      depotref02_Base32.l1 k (bitsL v (8 * n)) (lettersUp v j) ((5 * j : Nat) : Int) ((v / 2 ^ (5 * j + r) % 2 ^ (5 - r) : Nat) : Int) ((r : Int) - 1) = some (strOfNums (rowB m v m))) := by
  induction d with
  | zero => exact ⟨fun j k _ h => by omega, fun j r k _ _ h => by omega⟩
  | succ d ih =>
    obtain ⟨ih0, ih1⟩ := ih
    refine ⟨?_, ?_⟩
    · intro j k hj hd hk
      obtain ⟨k, rfl⟩ : ∃ q, k = q + 1 := ⟨k - 1, by omega⟩
      simp only [depotref02_Base32.l0, bitsL_length, lettersUp_length]
      by_cases hlt : j < m
      · rw [if_pos (by omega)]
        have := ih1 j 5 k hlt (by omega) (by omega) (by omega)
        simpa [Nat.mod_one] using this
      · obtain rfl : j = m := by omega
        rw [if_neg (by omega), if_pos (by omega), if_pos (by omega), Int.toNat_natCast, ← rowB_zero j v]
        exact turn_loop v j (by omega) j 0 k (by omega) (by omega)
    · intro j r k hj hr hd hk
      obtain ⟨k, rfl⟩ : ∃ q, k = q + 1 := ⟨k - 1, by omega⟩
      simp only [depotref02_Base32.l1, bitsL_length, lettersUp_length]
      cases r with
      | zero =>
        have h32 : v / 2 ^ (5 * j + 0) % 2 ^ (5 - 0) = v / 32 ^ j % 32 := by rw [pow32]; rfl
        have hlt := Nat.mod_lt (v / 32 ^ j) (show 0 < 32 by omega)
        have w1 : wrap64 (((5 * j : Nat) : Int) + 5) = ((5 * (j + 1) : Nat) : Int) := w64_nat _ _ (by omega) (by omega)
        rw [h32, if_neg (by omega), if_pos (by omega), if_pos (by omega), if_pos (by omega), w1]
        have := lettersUp_succ v j
        unfold lt letterText at this
        rw [← this]
        exact ih0 (j + 1) k (by omega) (by omega) (by omega)
      | succ r =>
        have e1 : ((r + 1 : Nat) : Int) - 1 = (r : Int) := by omega
        have c1 : (r : Int) ≥ 0 := by omega
        have w1 : wrap64 (((5 * j : Nat) : Int) + (r : Int)) = ((5 * j + r : Nat) : Int) := w64_nat _ _ (by omega) (by omega)
        have w2 : wrap64 ((r : Int) - 1) = (r : Int) - 1 := by unfold wrap64; omega
        have goal := ih1 j r k hj (by omega) (by omega) (by omega)
        have e2 : 5 - (r + 1) + 1 = 5 - r := by omega
        have e3 : 5 * j + r + 1 = 5 * j + (r + 1) := by omega
        have h4 : 5 - (r + 1) ≤ 4 := by omega
        rw [e1, if_pos c1, w1, w2]
        by_cases hq : 5 * j + r < 8 * n
        · have c2 : ((5 * j + r : Nat) : Int) < ((8 * n : Nat) : Int) := by omega
          have c3 : (0 : Int) ≤ ((5 * j + r : Nat) : Int) := by omega
          rw [if_pos c2, if_pos c3, bitsL_rd _ _ _ hq]
          rw [part_wrap v (5 * j + r) (5 - (r + 1)) h4 _ e3, e2]
          exact goal
        · have c2 : ¬ ((5 * j + r : Nat) : Int) < ((8 * n : Nat) : Int) := by omega
          have h8 : 8 * n ≤ 5 * j + r := by omega
          rw [if_neg c2]
          rw [part_wrap0 v (5 * j + r) (5 - (r + 1)) h4 _ e3 (Nat.div_eq_of_lt (Nat.lt_of_lt_of_le hv.out (Nat.pow_le_pow_right (by decide) h8))), e2]
          exact goal
theorem ref_b32 (b : ByteArray) (hb : b.size ≤ 1048576) (k : Nat) (hk : 100 * b.size + 100 < k) : depotref02_Base32.f k b = some (b32 b) := by
  have hv : Aside0 (numN b b.size < 2 ^ (8 * b.size)) := ⟨by rw [← pow256]; exact numN_lt b b.size⟩
  unfold depotref02_Base32.f
  rw [bits_is b hb k (by omega)]
  simp only [Option.bind_some]
  have := (ref_b32_loop (numN b b.size) b.size _ hv hb rfl (9 * ((8 * b.size + 4) / 5) + 2)).1 0 k (Nat.zero_le _) (by omega) (by omega)
  exact this

/-! ### FromBase32 -/
theorem bytesN_get (v n p : Nat) (hp : p < n) : (bytesN v n)[p]'(by rw [bytesN_length]; exact hp) = ((v / 256 ^ p % 256 : Nat) : Int) := by simp [bytesN]
theorem bytesN_rd (v n p : Nat) (hp : p < n) : rd (bytesN v n) (p : Int) = ((v / 256 ^ p % 256 : Nat) : Int) := by simp [rd, bytesN, List.getD_eq_getElem?_getD, hp]
theorem bit_set (u i n : Nat) (hu : u < 2 ^ i) (hi : i < 8 * n) :
    (bytesN u n).set (i / 8) (((u / 256 ^ (i / 8) % 256 + 2 ^ (i % 8)) % 256 : Nat) : Int) = bytesN (u + 2 ^ i) n := by
  apply List.ext_getElem
  · simp [bytesN_length]
  · intro p h1 h2
    rw [bytesN_length] at h2
    rw [List.getElem_set, bytesN_get (u + 2 ^ i) n p h2]
    by_cases e : i / 8 = p
    · subst e
      have hp : 2 ^ i = 256 ^ (i / 8) * 2 ^ (i % 8) := by
        rw [pow256, ← Nat.pow_add]
        congr 1
        omega
      rw [if_pos rfl, hp, Nat.add_mul_div_left _ _ (Nat.pow_pos (by omega)), Nat.add_mod (u / 256 ^ (i / 8)), Nat.add_mod (u / 256 ^ (i / 8) % 256), Nat.mod_mod]
    · rw [if_neg e, bytesN_get u n p h2]
      rcases Nat.lt_or_gt_of_ne e with hlt | hgt
      · have h3 : u + 2 ^ i < 256 ^ p := by
          have : 2 ^ (i + 1) ≤ 256 ^ p := by
            rw [pow256]
            exact Nat.pow_le_pow_right (by omega) (by omega)
          rw [Nat.pow_succ] at this
          omega
        rw [Nat.div_eq_of_lt h3, Nat.div_eq_of_lt (by omega)]
      · have hp : 2 ^ i = 256 ^ p * (256 * 2 ^ (i - 8 * (p + 1))) := by
          rw [pow256, show (256 : Nat) = 2 ^ 8 from rfl, ← Nat.pow_add, ← Nat.pow_add]
          congr 1
          omega
        rw [hp, Nat.add_mul_div_left _ _ (Nat.pow_pos (by omega)), Nat.add_mul_mod_self_left]
theorem mod_next (v i : Nat) : v % 2 ^ (i + 1) = v % 2 ^ i + 2 ^ i * bitN v i := by
  unfold bitN
  rw [Nat.mod_pow_succ]
theorem shl_one (q : Nat) (h : q < 8) : shl .u8 1 (IntKind.u64.wrap (q : Int)) = ((2 ^ q : Nat) : Int) := by
  rw [u64w _ (by omega) (by omega)]
  rcases (by omega : q = 0 ∨ q = 1 ∨ q = 2 ∨ q = 3 ∨ q = 4 ∨ q = 5 ∨ q = 6 ∨ q = 7) with rfl | rfl | rfl | rfl | rfl | rfl | rfl | rfl <;> decide
def bitsAns (v n : Nat) : Option (ByteArray × Int) := if v / 256 ^ n ≠ 0 then some (⟨#[]⟩, 22) else some (strOfNums (bytesN v n), 0)
theorem bits_back (v n len : Nat) (hn : n ≤ 1048576) (hl : len ≤ 10000000) (hv : Aside0 (v < 2 ^ len)) (d : Nat) : ∀ i k : Nat, i + d = len → d < k → Aside0 (v % 2 ^ i < 256 ^ n) →
    depotref02_FromBase32.l3 k (n : Int) (bitsL v len) (bytesN (v % 2 ^ i) n) (i : Int) = bitsAns v n := by
  induction d with
  | zero =>
    intro i k hi hk hz
    obtain ⟨k, rfl⟩ : ∃ q, k = q + 1 := ⟨k - 1, by omega⟩
    obtain rfl : i = len := by omega
    have hz := hz.out
    rw [Nat.mod_eq_of_lt hv.out] at hz ⊢
    simp only [depotref02_FromBase32.l3, bitsL_length]
    rw [if_neg (Int.lt_irrefl _), bitsAns, if_neg (by rw [Nat.div_eq_of_lt hz]; simp)]
  | succ d ih =>
    intro i k hi hk hz
    obtain ⟨k, rfl⟩ : ∃ q, k = q + 1 := ⟨k - 1, by omega⟩
    have w1 : wrap64 ((i : Int) + 1) = ((i + 1 : Nat) : Int) := w64_nat _ _ (by omega) (by omega)
    have w2 : wrap64 (8 * (n : Int)) = ((8 * n : Nat) : Int) := w64_nat _ _ (by omega) (by omega)
    have w3 : wrap64 (Int.tdiv (i : Int) 8) = ((i / 8 : Nat) : Int) := w64_nat _ _ rfl (by omega)
    have w4 : Int.tmod (i : Int) 8 = ((i % 8 : Nat) : Int) := rfl
    have c1 : (i : Int) < (len : Int) := by omega
    have c2 : (0 : Int) ≤ (i : Int) := by omega
    have hil : i < len := by omega
    have goal := ih (i + 1) k (by omega) (by omega)
    have hb := bitN_lt v i
    simp only [depotref02_FromBase32.l3, bitsL_length, bytesN_length, w1, w2, w3, w4, Int.toNat_natCast]
    rw [if_pos c1, if_pos c2, bitsL_rd _ _ _ hil]
    by_cases h0 : bitN v i = 0
    · have hm := mod_next v i
      simp only [h0, Nat.mul_zero, Nat.add_zero] at hm
      rw [if_pos (by rw [h0]; rfl), ← hm]
      exact goal ⟨by rw [hm]; exact hz.out⟩
    · have h1 : bitN v i = 1 := by omega
      rw [if_neg (by rw [h1]; decide)]
      by_cases h8 : 8 * n ≤ i
      · rw [if_pos (by omega), bitsAns, if_pos]
        intro hq
        have hm := mod_next v i
        rw [h1, Nat.mul_one] at hm
        have h5 : 256 ^ n ≤ 2 ^ i := by
          rw [pow256]
          exact Nat.pow_le_pow_right (by decide) h8
        have h6 := Nat.mod_le v (2 ^ (i + 1))
        have h7 : 0 < 256 ^ n := Nat.pow_pos (by decide)
        rcases Nat.div_eq_zero_iff.1 hq with h4 | h4
        · rw [h4] at h7
          exact absurd h7 (Nat.lt_irrefl 0)
        · rw [hm] at h6
          exact absurd h4 (Nat.not_lt.2 (Nat.le_trans h5 (Nat.le_trans (Nat.le_add_left _ _) h6)))
      · have c3 : ¬ (i : Int) ≥ ((8 * n : Nat) : Int) := by omega
        have c4 : (0 : Int) ≤ ((i / 8 : Nat) : Int) := by omega
        have c5 : ((i / 8 : Nat) : Int) < (n : Int) := by omega
        have c6 : (0 : Int) ≤ IntKind.u64.wrap ((i % 8 : Nat) : Int) := by rw [u64w _ (by omega) (by omega)]; omega
        have h9 : i / 8 < n := by omega
        have h10 : i < 8 * n := by omega
        have hset := bit_set (v % 2 ^ i) i n (Nat.mod_lt _ (Nat.pow_pos (by decide))) h10
        rw [if_neg c3, if_pos c4, if_pos c5, if_pos c6, bytesN_rd _ _ _ h9, shl_one _ (Nat.mod_lt _ (by decide))]
        have e : (((v % 2 ^ i / 256 ^ (i / 8) % 256 : Nat) : Int) + ((2 ^ (i % 8) : Nat) : Int)) % 256 = (((v % 2 ^ i / 256 ^ (i / 8) % 256 + 2 ^ (i % 8)) % 256 : Nat) : Int) := by
          rw [← Int.natCast_add]
          rfl
        have hm := mod_next v i
        rw [h1, Nat.mul_one] at hm
        rw [e, hset, ← hm]
        refine goal ⟨?_⟩
        rw [pow256]
        exact Nat.lt_of_lt_of_le (Nat.mod_lt _ (Nat.pow_pos (by decide))) (Nat.pow_le_pow_right (by decide) h10)
theorem valN_bit (s : ByteArray) (j q : Nat) (h : q < 5 * j) : bitN (valN s (j + 1)) q = bitN (valN s j) q := by
  unfold bitN
  have e : 32 ^ j = 2 ^ q * (2 * 2 ^ (5 * j - q - 1)) := by
    rw [pow32, ← Nat.pow_succ', ← Nat.pow_add]
    congr 1
    omega
  have e2 : valN s (j + 1) = valN s j + 2 ^ q * (2 * ((valAt s j).toNat * 2 ^ (5 * j - q - 1))) := by
    rw [valN, e]
    congr 1
    rw [Nat.mul_left_comm, Nat.mul_left_comm ((valAt s j).toNat)]
  rw [e2, Nat.add_mul_div_left _ _ (Nat.pow_pos (by omega)), Nat.add_mul_mod_self_left]
theorem valN_bit_new (s : ByteArray) (j t : Nat) : bitN (valN s (j + 1)) (5 * j + t) = (valAt s j).toNat / 2 ^ t % 2 := by
  unfold bitN
  rw [valN, Nat.pow_add, ← Nat.div_div_eq_div_mul, ← pow32, Nat.add_mul_div_right _ _ (Nat.pow_pos (by omega)), Nat.div_eq_of_lt (valN_lt s j), Nat.zero_add]
def lettersAns (s : ByteArray) (n : Nat) : Option (ByteArray × Int) := if lettersGood s s.size then bitsAns (valN s s.size) n else some (⟨#[]⟩, 20)
theorem letters_loop (s : ByteArray) (n : Nat) (hs : s.size ≤ 1048576) (hn : n ≤ 1048576) (d : Nat) :
    (∀ j k : Nat, j ≤ s.size → lettersGood s j → 7 * (s.size - j) + 5 * s.size + 2 ≤ d → d + 40 < k →
      depotref02_FromBase32.l1 k s (n : Int) (bitsL (valN s j) (5 * j)) ((s.size : Int) - 1 - j) = lettersAns s n) ∧
    (∀ j t k : Nat, j < s.size → t ≤ 5 → lettersGood s (j + 1) → 7 * (s.size - (j + 1)) + (5 - t) + 5 * s.size + 3 ≤ d → d + 40 < k →
      depotref02_FromBase32.l2 k s (n : Int) (bitsL (valN s (j + 1)) (5 * j + t)) ((s.size : Int) - 1 - j) (((valAt s j).toNat / 2 ^ t : Nat) : Int) (t : Int) = lettersAns s n) := by
  induction d with
  | zero => exact ⟨fun j k _ _ h => by omega, fun j t k _ _ _ h => by omega⟩
  | succ d ih =>
    obtain ⟨ih0, ih1⟩ := ih
    refine ⟨?_, ?_⟩
    · intro j k hj hg hd hk
      obtain ⟨k, rfl⟩ : ∃ q, k = q + 1 := ⟨k - 1, by omega⟩
      simp only [depotref02_FromBase32.l1]
      by_cases hlt : j < s.size
      · obtain ⟨c0, c1⟩ := bt_range s ((s.size : Int) - 1 - j)
        have hv : letterOf (bt s ((s.size : Int) - 1 - j)) = valAt s j := rfl
        rw [if_pos (by omega), if_pos (by omega), if_pos (by omega), value_is _ c0 (by omega) k (by omega)]
        simp only [Option.bind_some]
        rw [hv]
        by_cases hneg : valAt s j < 0
        · rw [if_pos hneg, lettersAns, if_neg (fun h => by have := h j hlt; omega)]
        · have hg1 : lettersGood s (j + 1) := fun q hq => by
            rcases Nat.lt_or_ge q j with h | h
            · exact hg q h
            · obtain rfl : q = j := by omega
              omega
          rw [if_neg hneg]
          have := ih1 j 0 k hlt (by omega) hg1 (by omega) (by omega)
          simp only [Nat.add_zero, Nat.pow_zero, Nat.div_one] at this
          rw [bitsL_congr _ _ _ (fun q hq => valN_bit s j q hq), show (((valAt s j).toNat : Nat) : Int) = valAt s j by omega] at this
          exact this
      · obtain rfl : j = s.size := by omega
        rw [if_neg (by omega), if_pos (by omega), if_pos (by omega), lettersAns, if_pos hg, Int.toNat_natCast]
        have hv : Aside0 (valN s s.size < 2 ^ (5 * s.size)) := ⟨by rw [← pow32]; exact valN_lt s s.size⟩
        have h0 : List.replicate n (0 : Int) = bytesN (valN s s.size % 2 ^ 0) n := by
          apply List.ext_getElem
          · simp [bytesN_length]
          · intro p h1 h2
            rw [bytesN_length] at h2
            rw [bytesN_get _ _ _ h2]
            simp [Nat.mod_one]
        rw [h0]
        exact bits_back (valN s s.size) n (5 * s.size) hn (by omega) hv (5 * s.size) 0 k (by omega) (by omega) ⟨by rw [Nat.pow_zero, Nat.mod_one]; exact Nat.pow_pos (by omega)⟩
    · intro j t k hj ht hg hd hk
      obtain ⟨k, rfl⟩ : ∃ q, k = q + 1 := ⟨k - 1, by omega⟩
      simp only [depotref02_FromBase32.l2]
      by_cases h5 : t < 5
      · have hlt : (bitsL (valN s (j + 1)) (5 * j + t)).length < 17592186044416 := by rw [bitsL_length]; omega
        have w1 : wrap64 ((t : Int) + 1) = ((t + 1 : Nat) : Int) := w64_nat _ _ (by omega) (by omega)
        have c1 : (t : Int) < 5 := by omega
        have goal := ih1 j (t + 1) k hj (by omega) hg (by omega) (by omega)
        have hm : Int.tmod (((valAt s j).toNat / 2 ^ t : Nat) : Int) 2 = ((bitN (valN s (j + 1)) (5 * j + t) : Nat) : Int) := by
          rw [valN_bit_new]
          rfl
        rw [if_pos c1, if_pos hlt, hm, half_step _ t (Nat.lt_of_lt_of_le (valAt_lt s j) (by decide)), w1, ← bitsL_succ]
        exact goal
      · obtain rfl : t = 5 := by omega
        have w1 : wrap64 ((s.size : Int) - 1 - j - 1) = (s.size : Int) - 1 - ((j + 1 : Nat) : Int) := by unfold wrap64; omega
        rw [if_neg (by omega), w1, show 5 * j + 5 = 5 * (j + 1) by omega]
        exact ih0 (j + 1) k (by omega) hg (by omega) (by omega)
theorem find_loop (s : ByteArray) (hs : s.size ≤ 1048576) (d : Nat) : ∀ n k : Nat, n + d = (5 * s.size + 3) / 8 → d + 20 * s.size + 100 < k →
    depotref02_FromBase32.l0 k s (n : Int) = if (8 * (5 * s.size / 8) + 4) / 5 ≠ s.size then some (⟨#[]⟩, 21) else lettersAns s (5 * s.size / 8) := by
  induction d with
  | zero =>
    intro n k hn hk
    obtain ⟨k, rfl⟩ : ∃ q, k = q + 1 := ⟨k - 1, by omega⟩
    have w1 : wrap64 (8 * (n : Int)) = ((8 * n : Nat) : Int) := w64_nat _ _ (by omega) (by omega)
    have w2 : wrap64 (((8 * n : Nat) : Int) + 4) = ((8 * n + 4 : Nat) : Int) := w64_nat _ _ (by omega) (by omega)
    have w3 : wrap64 (Int.tdiv ((8 * n + 4 : Nat) : Int) 5) = (((8 * n + 4) / 5 : Nat) : Int) := w64_nat _ _ rfl (by omega)
    have w4 : wrap64 ((s.size : Int) - 1) = (s.size : Int) - 1 := by unfold wrap64; omega
    simp only [depotref02_FromBase32.l0, w1, w2, w3, w4]
    rw [if_neg (by omega)]
    by_cases h : (8 * n + 4) / 5 = s.size
    · have hn2 : n = 5 * s.size / 8 := by omega
      rw [if_pos (by omega), if_neg (by rw [← hn2]; simpa using h), ← hn2]
      have := (letters_loop s n hs (by omega) (12 * s.size + 2)).1 0 k (Nat.zero_le _) (fun i hi => absurd hi (Nat.not_lt_zero _)) (by omega) (by omega)
      simpa [bitsL, valN] using this
    · have hne : (8 * (5 * s.size / 8) + 4) / 5 ≠ s.size := by
        intro h2
        have : n = 5 * s.size / 8 := by omega
        rw [this] at h
        exact h h2
      rw [if_neg (by omega), if_pos hne]
  | succ d ih =>
    intro n k hn hk
    obtain ⟨k, rfl⟩ : ∃ q, k = q + 1 := ⟨k - 1, by omega⟩
    have w1 : wrap64 (8 * (n : Int)) = ((8 * n : Nat) : Int) := w64_nat _ _ (by omega) (by omega)
    have w2 : wrap64 (((8 * n : Nat) : Int) + 4) = ((8 * n + 4 : Nat) : Int) := w64_nat _ _ (by omega) (by omega)
    have w3 : wrap64 (Int.tdiv ((8 * n + 4 : Nat) : Int) 5) = (((8 * n + 4) / 5 : Nat) : Int) := w64_nat _ _ rfl (by omega)
    have w4 : wrap64 ((n : Int) + 1) = ((n + 1 : Nat) : Int) := w64_nat _ _ (by omega) (by omega)
    simp only [depotref02_FromBase32.l0, w1, w2, w3, w4]
    rw [if_pos (by omega)]
    exact ih (n + 1) k (by omega) (by omega)
theorem ref_fromBase32 (s : ByteArray) (hs : s.size ≤ 1048576) (k : Nat) (hk : 30 * s.size + 200 < k) : depotref02_FromBase32.f k s = radix_FromBase32.f s := by
  unfold depotref02_FromBase32.f
  have := find_loop s hs ((5 * s.size + 3) / 8) 0 k (by omega) (by omega)
  rw [show (((0 : Nat)) : Int) = 0 from rfl] at this
  rw [this]
  unfold radix_FromBase32.f
  have c1 : s.size ≤ 281474976710656 := by omega
  rw [if_pos c1]
  by_cases h : (8 * (5 * s.size / 8) + 4) / 5 ≠ s.size
  · rw [if_pos h, if_pos h]
  · rw [if_neg h, if_neg h, lettersAns]
    by_cases hg : lettersGood s s.size
    · obtain ⟨h1, h2⟩ := gathered s s.size hg
      rw [if_pos hg, if_pos hg, h1, h2, bitsAns]
      by_cases hz : valN s s.size / 256 ^ (5 * s.size / 8) ≠ 0
      · rw [if_pos hz, if_pos (by omega)]
      · rw [if_neg hz, if_neg (by omega)]
    · rw [if_neg hg, if_neg hg]
theorem fromBase32_some (s : ByteArray) (hs : s.size ≤ 1048576) : ∃ r e, radix_FromBase32.f s = some (r, e) := by
  unfold radix_FromBase32.f
  rw [if_pos (by omega)]
  split
  · exact ⟨_, _, rfl⟩
  · split
    · split <;> exact ⟨_, _, rfl⟩
    · exact ⟨_, _, rfl⟩
theorem RadixLetters (b s : ByteArray) (c : Int) (hb : b.size ≤ 1048576) (hs : s.size ≤ 1048576) (hc : (Lit.int .u8 c).wf = true) : ∃ k, depotlaw02_RadixLetters.f k b s c = some true := by
  have hc2 : 0 ≤ c ∧ c < 256 := by
    simp only [Lit.wf, Bool.and_eq_true, decide_eq_true_eq] at hc
    have hmin : IntKind.u8.min = 0 := rfl
    have hmax : IntKind.u8.max = 255 := rfl
    omega
  obtain ⟨K, hK⟩ : ∃ K, K = 100 * b.size + 30 * s.size + 300 := ⟨_, rfl⟩
  refine ⟨K, ?_⟩
  obtain ⟨r, e, hr⟩ := fromBase32_some s hs
  have p1 := b32_is (⟨#[255]⟩ : ByteArray) (by decide) K (by show 3 * 1 + (8 * 1 + 4) / 5 + 1 < K; omega)
  have p2 := ref_fromBase32 s hs K (by omega)
  have p3 := b32_is b (by omega) K (by omega)
  have p4 := ref_b32 b hb K (by omega)
  have p5 := value_is c hc2.1 hc2.2 K (by omega)
  rw [hr] at p2
  unfold depotlaw02_RadixLetters.f
  rw [p1, Option.bind_some, if_pos b32_probe, hr, Option.bind_some, p2, Option.bind_some, p3, Option.bind_some, p4, Option.bind_some, if_pos rfl, if_pos rfl, if_pos rfl,
    show radix_Value.f c = some (letterOf c) from rfl, Option.bind_some, p5, Option.bind_some, beq_self_eq_true]
theorem walk (a0 a1 : ByteArray) (a2 : Int) (w : World) (w0 : a0.size ≤ 1048576) (w1 : a1.size ≤ 1048576) (w2 : (Lit.int .u8 a2).wf = true) :
    Calls Try.prog 7 #[.string a0, .string a1, .int .u8 a2] w fun e w' => e = .returned (.bool true) ∧ Below w.heap.size w w' := by
  obtain ⟨k, h⟩ := RadixLetters a0 a1 a2 w0 w1 w2
  exact depotlaw02_RadixLetters.calls k a0 a1 a2 true w h
end Go.Proofs.Ytjbjdccnbjddjaa.Pure
