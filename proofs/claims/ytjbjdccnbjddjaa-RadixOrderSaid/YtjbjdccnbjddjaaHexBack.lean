import Derived.Test.YtjbjdccnbjddjaaExtRefFromHex
import Derived.Test.YtjbjdccnbjddjaaMixMath
namespace Go.Proofs.Ytjbjdccnbjddjaa
open Go.RowKit Go.Proofs.YtjbjdccnbjddjaaW.PrintWords Go.Proofs.YtjbjdccnbjddjaaW.PrintMore

def hexIdx (c : Int) : Int := Lib.indexByte hexText.data.toList c.toNat.toUInt8
theorem hexAt_eq (b : ByteArray) (k : Nat) : hexAt b k = hexIdx (bt b k) := rfl
theorem hexIdx_digit : ∀ d : Fin 16, hexIdx (bt hexText (d.val : Int)) = (d.val : Int) ∧ Byte (bt hexText (d.val : Int)) := by unfold Byte; decide +kernel
theorem hexIdx_are : ∀ c : Fin 256, hexIdx (c.val : Int) < 0 ∨ bt hexText (hexIdx (c.val : Int)) = (c.val : Int) := by decide +kernel
theorem and15 : ∀ c : Fin 256, Go.bits .and .u8 (c.val : Int) 15 = (c.val : Int) % 16 := by decide +kernel
theorem and15_bt (b : ByteArray) (i : Int) : Go.bits .and .u8 (bt b i) 15 = bt b i % 16 := by
  obtain ⟨h0, h1⟩ := bt_range b i
  have := and15 ⟨(bt b i).toNat, by omega⟩
  simp only [show (((bt b i).toNat : Nat) : Int) = bt b i by omega] at this
  exact this
theorem digit_back (d : Int) (h0 : 0 ≤ d) (h1 : d < 16) : hexIdx (bt hexText d) = d ∧ Byte (bt hexText d) := by
  have := hexIdx_digit ⟨d.toNat, by omega⟩
  simp only [show ((d.toNat : Nat) : Int) = d by omega] at this
  exact this
theorem digit_of_idx (s : ByteArray) (i : Int) (h : 0 ≤ hexIdx (bt s i)) : bt hexText (hexIdx (bt s i)) = bt s i := by
  obtain ⟨h0, h1⟩ := bt_range s i
  have := hexIdx_are ⟨(bt s i).toNat, by omega⟩
  simp only [show (((bt s i).toNat : Nat) : Int) = bt s i by omega] at this
  rcases this with h2 | h2
  · omega
  · exact h2
theorem rd_append (l m : List Int) (i : Nat) : rd (l ++ m) i = if i < l.length then rd l i else rd m ((i - l.length : Nat) : Int) := by
  unfold rd
  simp only [Int.toNat_natCast, List.getD_eq_getElem?_getD, List.getElem?_append]
  split <;> rfl
theorem hexRow_rd (b : ByteArray) (k i : Nat) (h : i < k) : rd (hexRow b k) ((2 * i : Nat) : Int) = bt hexText (bt b i / 16) ∧ rd (hexRow b k) ((2 * i + 1 : Nat) : Int) = bt hexText (bt b i % 16) := by
  induction k with
  | zero => omega
  | succ k ih =>
    rw [hexRow, rd_append, rd_append, hexRow_length]
    rcases Nat.lt_or_ge i k with hi | hi
    · rw [if_pos (by omega), if_pos (by omega)]
      exact ih hi
    · obtain rfl : i = k := by omega
      rw [if_neg (by omega), if_neg (by omega), show 2 * i - 2 * i = 0 by omega, show 2 * i + 1 - 2 * i = 1 by omega, and15_bt]
      exact ⟨rfl, rfl⟩
theorem byte_div (b : ByteArray) (i : Int) : 0 ≤ bt b i / 16 ∧ bt b i / 16 < 16 ∧ 0 ≤ bt b i % 16 ∧ bt b i % 16 < 16 := by
  obtain ⟨h0, h1⟩ := bt_range b i
  omega
theorem unhexRow_rd (s : ByteArray) (k : Nat) (hk : k ≤ s.size) (he : s.size % 2 = 0) (hg : hexGood s k) (i : Nat) (hi : i < s.size / 2) :
    rd (unhexRow s k) (i : Int) = if 2 * i + 1 < k then hexAt s (2 * i) * 16 + hexAt s (2 * i + 1) else if 2 * i < k then hexAt s (2 * i) else 0 := by
  induction k with
  | zero =>
    rw [if_neg (by omega), if_neg (by omega)]
    simp only [unhexRow, rd, Int.toNat_natCast, List.getD_eq_getElem?_getD, List.getElem?_replicate]
    split <;> rfl
  | succ k ih =>
    have ihk := ih (by omega) (fun q hq => hg q (by omega))
    have h0 := hg k (by omega)
    have h1 := hexAt_hi s k
    rw [unhexRow, rd_set _ _ _ _ (by rw [unhexRow_length]; omega), or16 _ _ h0 h1]
    by_cases e : i = k / 2
    · rw [if_pos e, ← e, ihk]
      rcases (by omega : k = 2 * i ∨ k = 2 * i + 1) with rfl | rfl
      · rw [if_neg (by omega), if_neg (by omega), if_neg (by omega), if_pos (by omega)]
        omega
      · have h2 := hg (2 * i) (by omega)
        have h3 := hexAt_hi s (2 * i)
        rw [if_neg (by omega), if_pos (by omega), if_pos (by omega)]
        omega
    · rw [if_neg e, ihk]
      by_cases a : 2 * i + 1 < k
      · rw [if_pos a, if_pos (by omega)]
      · rw [if_neg a, if_neg (by omega), if_neg (by omega), if_neg (by omega)]
def hexT (b : ByteArray) : ByteArray := strOfNums (hexRow b b.size)
theorem hexT_size (b : ByteArray) : (hexT b).size = 2 * b.size := by rw [hexT, strOfNums_size, hexRow_length]
theorem hexT_bt (b : ByteArray) (i : Nat) (h : i < b.size) : bt (hexT b) ((2 * i : Nat) : Int) = bt hexText (bt b i / 16) ∧ bt (hexT b) ((2 * i + 1 : Nat) : Int) = bt hexText (bt b i % 16) := by
  obtain ⟨h1, h2⟩ := hexRow_rd b b.size i h
  obtain ⟨d0, d1, m0, m1⟩ := byte_div b i
  refine ⟨?_, ?_⟩
  · rw [hexT, bt_strOfNums _ _ (by rw [hexRow_length]; omega) (by rw [h1]; exact (digit_back _ d0 d1).2), h1]
  · rw [hexT, bt_strOfNums _ _ (by rw [hexRow_length]; omega) (by rw [h2]; exact (digit_back _ m0 m1).2), h2]
theorem hexAt_hexT (b : ByteArray) (i : Nat) (h : i < b.size) : hexAt (hexT b) (2 * i) = bt b i / 16 ∧ hexAt (hexT b) (2 * i + 1) = bt b i % 16 := by
  obtain ⟨h1, h2⟩ := hexT_bt b i h
  obtain ⟨d0, d1, m0, m1⟩ := byte_div b i
  exact ⟨by rw [hexAt_eq, h1, (digit_back _ d0 d1).1], by rw [hexAt_eq, h2, (digit_back _ m0 m1).1]⟩
theorem hexGood_hexT (b : ByteArray) : hexGood (hexT b) (hexT b).size := by
  intro q hq
  rw [hexT_size] at hq
  obtain ⟨h1, h2⟩ := hexAt_hexT b (q / 2) (by omega)
  obtain ⟨d0, d1, m0, m1⟩ := byte_div b ((q / 2 : Nat) : Int)
  rcases (by omega : q = 2 * (q / 2) ∨ q = 2 * (q / 2) + 1) with e | e
  · rw [e, h1]
    exact d0
  · rw [e, h2]
    exact m0
theorem fromHex_hex (b : ByteArray) (hb : b.size ≤ 140737488351232) : radix_FromHex.f (hexT b) = some (b, 0) := by
  have hz := hexT_size b
  have hg := hexGood_hexT b
  unfold radix_FromHex.f
  rw [if_pos (by omega), if_neg (by omega), if_pos hg]
  have e : strOfNums (unhexRow (hexT b) (hexT b).size) = b := by
    have hs : (strOfNums (unhexRow (hexT b) (hexT b).size)).size = b.size := by rw [strOfNums_size, unhexRow_length]; omega
    refine byteArray_ext hs fun i hi => ?_
    rw [hs] at hi
    have hr := unhexRow_rd (hexT b) (hexT b).size (Nat.le_refl _) (by omega) hg i (by omega)
    obtain ⟨h1, h2⟩ := hexAt_hexT b i hi
    rw [if_pos (by omega), h1, h2] at hr
    have hr2 : rd (unhexRow (hexT b) (hexT b).size) (i : Int) = bt b i := by rw [hr]; omega
    rw [bt_strOfNums _ _ (by rw [unhexRow_length]; omega) (by rw [hr2]; exact byte_bt _ _), hr2]
  rw [e]
theorem hex_fromHex (s y : ByteArray) (h : radix_FromHex.f s = some (y, 0)) : hexT y = s ∧ y.size = s.size / 2 := by
  unfold radix_FromHex.f at h
  by_cases hs : s.size ≤ 281474976710656
  case neg => rw [if_neg hs] at h; cases h
  rw [if_pos hs] at h
  by_cases h2 : s.size % 2 ≠ 0
  case pos => rw [if_pos h2] at h; simp at h
  rw [if_neg h2] at h
  by_cases hg : hexGood s s.size
  case neg => rw [if_neg hg] at h; simp at h
  rw [if_pos hg] at h
  have hy : strOfNums (unhexRow s s.size) = y := by simpa using h
  have hys : y.size = s.size / 2 := by rw [← hy, strOfNums_size, unhexRow_length]
  refine ⟨?_, hys⟩
  have hb : ∀ i : Nat, i < s.size / 2 → bt y i = hexAt s (2 * i) * 16 + hexAt s (2 * i + 1) := by
    intro i hi
    have hr := unhexRow_rd s s.size (Nat.le_refl _) (by omega) hg i hi
    rw [if_pos (by omega)] at hr
    have g1 := hg (2 * i) (by omega)
    have g2 := hg (2 * i + 1) (by omega)
    have g3 := hexAt_hi s (2 * i)
    have g4 := hexAt_hi s (2 * i + 1)
    rw [← hy, bt_strOfNums _ _ (by rw [unhexRow_length]; exact hi) (by rw [hr]; exact ⟨by omega, by omega⟩), hr]
  have hz : (hexT y).size = s.size := by rw [hexT_size]; omega
  refine byteArray_ext hz fun q hq => ?_
  rw [hz] at hq
  have hb' := hb (q / 2) (by omega)
  obtain ⟨t1, t2⟩ := hexT_bt y (q / 2) (by omega)
  have g1 := hg (2 * (q / 2)) (by omega)
  have g2 := hg (2 * (q / 2) + 1) (by omega)
  have g3 := hexAt_hi s (2 * (q / 2))
  have g4 := hexAt_hi s (2 * (q / 2) + 1)
  rcases (by omega : q = 2 * (q / 2) ∨ q = 2 * (q / 2) + 1) with e | e
  · rw [e, t1, hb', show (hexAt s (2 * (q / 2)) * 16 + hexAt s (2 * (q / 2) + 1)) / 16 = hexAt s (2 * (q / 2)) by omega]
    exact digit_of_idx s _ g1
  · rw [e, t2, hb', show (hexAt s (2 * (q / 2)) * 16 + hexAt s (2 * (q / 2) + 1)) % 16 = hexAt s (2 * (q / 2) + 1) by omega]
    exact digit_of_idx s _ g2
theorem hex_f (b : ByteArray) (hb : b.size ≤ 140737488351232) : radix_Hex.f b = some (hexT b) := by unfold radix_Hex.f; rw [if_pos hb]; rfl
theorem hex_probe0 : radix_Hex.f (⟨#[240]⟩ : ByteArray) = some ⟨#[102, 48]⟩ := by decide +kernel
end Go.Proofs.Ytjbjdccnbjddjaa
