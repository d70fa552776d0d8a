/- Hexadecimal texts stand in the order of the bytes; those of Base32, of as many bytes, in the order of the bytes turned about: for all texts a and b. -/
import Derived.Test.YtjbjdccnbjddjaaPRadixOrderx1
import Derived.Test.YtjbjdccnbjddjaaOrderMath
namespace Go.Proofs.Ytjbjdccnbjddjaa.Pure
open Go.RowKit Go.Proofs.Ytjbjdccnbjddjaa.PRadixOrder Go.Proofs.YtjbjdccnbjddjaaW.PrintWords Go.Proofs.YtjbjdccnbjddjaaW.PrintLast Go.Proofs.YtjbjdccnbjddjaaW.PrintMore

theorem b32_loop (b : ByteArray) (hb : b.size ≤ 140737488351232) (m : Nat) (hm : (8 * b.size + 4) / 5 = m) (d : Nat) :
    (∀ i e held k : Nat, i ≤ b.size → 5 * e + held = 8 * i → held < 5 → 3 * (b.size - i) + (m - e) + 1 ≤ d → d < k →
      radix_Base32.l0 k b (rowB m (numN b i) e) ((numN b i / 32 ^ e : Nat) : Int) (held : Int) ((m : Int) - e) (b.size : Int) (i : Int) = some (b32 b)) ∧
    (∀ i e held k : Nat, i < b.size → 5 * e + held = 8 * (i + 1) → held ≤ 12 → 3 * (b.size - (i + 1)) + (m - e) + 2 ≤ d → d < k →
      radix_Base32.l1 k b (rowB m (numN b (i + 1)) e) ((numN b (i + 1) / 32 ^ e : Nat) : Int) (held : Int) ((m : Int) - e) (b.size : Int) (i : Int) = some (b32 b)) := by
  induction d with
  | zero => exact ⟨fun i e held k _ _ _ h => by omega, fun i e held k _ _ _ h => by omega⟩
  | succ d ih =>
    obtain ⟨ih0, ih1⟩ := ih
    refine ⟨?_, ?_⟩
    · intro i e held k hi he hh hd hk
      obtain ⟨k, rfl⟩ : ∃ q, k = q + 1 := ⟨k - 1, by omega⟩
      have ha := acc_lt b i e held he
      have hp : 2 ^ held ≤ 2 ^ 4 := Nat.pow_le_pow_right (by omega) (by omega)
      simp only [radix_Base32.l0]
      by_cases hlt : i < b.size
      · have w8 : IntKind.u64.wrap ((held : Int) + 8) = ((held + 8 : Nat) : Int) := by rw [u64w _ (by omega) (by omega)]; push_cast; rfl
        rw [if_pos (by omega), if_pos (by omega), if_pos (by omega), if_pos (by omega), ← byteN_bt, or_shift _ _ _ ha (byteN_lt b i) hh, ← acc_step b i e held he, w8, ← rowB_stable b m i e (by omega)]
        exact ih1 i e (held + 8) k hlt (by omega) (by omega) (by omega) (by omega)
      · obtain rfl : i = b.size := by omega
        rw [if_neg (by omega)]
        by_cases hz : held = 0
        · rw [if_neg (by omega)]
          have : e = m := by omega
          rw [this, b32, hm]
        · have w1 : wrap64 ((m : Int) - e - 1) = ((m - 1 - e : Nat) : Int) := w64_nat _ _ (by omega) (by omega)
          rw [if_pos (by omega), and31 _ (by omega), if_pos (by omega), if_pos (by omega), w1, rowB_length, if_pos (by omega), if_pos (by omega), Int.toNat_natCast]
          rw [show bt (⟨#[48, 49, 50, 51, 52, 53, 54, 55, 56, 57, 97, 98, 99, 100, 102, 103, 104, 105, 106, 107, 108, 109, 110, 112, 113, 114, 115, 118, 119, 120, 121, 122]⟩ : ByteArray) ((numN b b.size / 32 ^ e % 32 : Nat) : Int) = lt (numN b b.size / 32 ^ e % 32) from rfl, rowB_set _ _ _ (by omega)]
          have : e + 1 = m := by omega
          rw [this, b32, hm]
    · intro i e held k hi he hh hd hk
      obtain ⟨k, rfl⟩ : ∃ q, k = q + 1 := ⟨k - 1, by omega⟩
      have ha := acc_lt b (i + 1) e held he
      have hp : 2 ^ held ≤ 2 ^ 12 := Nat.pow_le_pow_right (by omega) hh
      simp only [radix_Base32.l1]
      by_cases h5 : 5 ≤ held
      · have w1 : wrap64 ((m : Int) - e - 1) = ((m - 1 - e : Nat) : Int) := w64_nat _ _ (by omega) (by omega)
        have w5 : IntKind.u64.wrap ((held : Int) - 5) = ((held - 5 : Nat) : Int) := by rw [u64w _ (by omega) (by omega)]; omega
        rw [if_pos (by omega), and31 _ (by omega), if_pos (by omega), if_pos (by omega), w1, rowB_length, if_pos (by omega), if_pos (by omega), Int.toNat_natCast, w5]
        rw [show bt (⟨#[48, 49, 50, 51, 52, 53, 54, 55, 56, 57, 97, 98, 99, 100, 102, 103, 104, 105, 106, 107, 108, 109, 110, 112, 113, 114, 115, 118, 119, 120, 121, 122]⟩ : ByteArray) ((numN b (i + 1) / 32 ^ e % 32 : Nat) : Int) = lt (numN b (i + 1) / 32 ^ e % 32) from rfl, rowB_set _ _ _ (by omega)]
        have e1 : ((numN b (i + 1) / 32 ^ e : Nat) : Int) / 32 = ((numN b (i + 1) / 32 ^ (e + 1) : Nat) : Int) := by
          rw [Nat.pow_succ, ← Nat.div_div_eq_div_mul]
          omega
        rw [e1, show ((m - 1 - e : Nat) : Int) = (m : Int) - ((e + 1 : Nat) : Int) by omega]
        exact ih1 i (e + 1) (held - 5) k hi (by omega) (by omega) (by omega) (by omega)
      · clear ha hp ih1
        clear hm
        have w1 : wrap64 ((i : Int) + 1) = ((i + 1 : Nat) : Int) := w64_nat _ _ (by omega) (by omega)
        have hn5 : ¬ ((held : Int) ≥ 5) := by omega
        rw [if_neg hn5, w1]
        exact ih0 (i + 1) e held k (by omega) (by omega) (by omega) (by omega) (by omega)
theorem b32_is (b : ByteArray) (hb : b.size ≤ 140737488351232) (k : Nat) (hk : 3 * b.size + (8 * b.size + 4) / 5 + 1 < k) : radix_Base32.f k b = some (b32 b) := by
  have w : wrap64 (Int.tdiv (wrap64 ((wrap64 (8 * (b.size : Int))) + 4)) 5) = (((8 * b.size + 4) / 5 : Nat) : Int) := by
    have w1 : wrap64 (8 * (b.size : Int)) = ((8 * b.size : Nat) : Int) := w64_nat _ _ (by omega) (by omega)
    have w2 : wrap64 (((8 * b.size : Nat) : Int) + 4) = ((8 * b.size + 4 : Nat) : Int) := w64_nat _ _ (by omega) (by omega)
    rw [w1, w2, Int.tdiv_eq_ediv_of_nonneg (by omega)]
    exact w64_nat _ _ (by omega) (by omega)
  unfold radix_Base32.f
  rw [w, if_pos (by omega), if_pos (by omega), Int.toNat_natCast]
  have := (b32_loop b hb _ rfl (3 * b.size + (8 * b.size + 4) / 5 + 1)).1 0 0 0 k (Nat.zero_le _) rfl (by omega) (by omega) (by omega)
  simpa [numN, rowB_zero] using this
theorem b32_probe : (b32 (⟨#[255]⟩ : ByteArray)).toList = [55, 122] := by decide +kernel
theorem turned_f (b : ByteArray) (hb : b.size ≤ 140737488351232) : depotlaw02_turned.f b = some (strOfNums (turnRow b b.size)) := by unfold depotlaw02_turned.f; rw [if_pos (by omega)]
theorem RadixOrder : depotlaw02_RadixOrder.Pure := by
  intro a b ha hb
  refine ⟨3 * a.size + 3 * b.size + (8 * a.size + 4) / 5 + (8 * b.size + 4) / 5 + 10, ?_⟩
  unfold depotlaw02_RadixOrder.f
  rw [hex_probe0, b32_is (⟨#[255]⟩ : ByteArray) (by decide) _ (by show 3 * 1 + (8 * 1 + 4) / 5 + 1 < _; omega)]
  simp only [Option.bind_some]
  rw [if_pos (by decide +kernel), b32_probe]
  simp only [depotlaw02_RadixOrder.j0]
  rw [if_neg (by decide), hex_f a ha, hex_f b hb]
  simp only [Option.bind_some]
  rw [hex_order, if_neg (by simp)]
  by_cases h : a.size = b.size
  · rw [if_pos (by omega), turned_f a ha, turned_f b hb, b32_is a ha _ (by omega), b32_is b hb _ (by omega)]
    simp only [Option.bind_some]
    rw [b32_order a b h]
    simp
  · rw [if_neg (by omega)]
end Go.Proofs.Ytjbjdccnbjddjaa.Pure
