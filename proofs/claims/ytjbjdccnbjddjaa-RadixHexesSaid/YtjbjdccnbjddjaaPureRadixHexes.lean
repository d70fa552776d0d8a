/- Every Hex and every FromHex: for all texts b and s the program's radix.Hex and radix.FromHex answer as the document's do. -/
import Derived.Test.YtjbjdccnbjddjaaPRadixHexesx1
namespace Go.Proofs.Ytjbjdccnbjddjaa.Pure
open Go.RowKit Go.Proofs.Ytjbjdccnbjddjaa.PRadixHexes Go.Proofs.YtjbjdccnbjddjaaW.PrintWords Go.Proofs.YtjbjdccnbjddjaaW.PrintLast

theorem digits_are : ∀ c : Fin 256, depotref02_digit.f ((Int.tdiv (c.val : Int) 16) % 256) = some (bt hexText ((c.val : Int) / 16)) ∧ depotref02_digit.f (Int.tmod (c.val : Int) 16) = some (bt hexText (Go.bits .and .u8 (c.val : Int) 15)) := by decide +kernel
theorem digits_of (b : ByteArray) (i : Int) : depotref02_digit.f ((Int.tdiv (bt b i) 16) % 256) = some (bt hexText (bt b i / 16)) ∧ depotref02_digit.f (Int.tmod (bt b i) 16) = some (bt hexText (Go.bits .and .u8 (bt b i) 15)) := by
  obtain ⟨h0, h1⟩ := bt_range b i
  have := digits_are ⟨(bt b i).toNat, by omega⟩
  simp only [show (((bt b i).toNat : Nat) : Int) = bt b i by omega] at this
  exact this
theorem two_set (l : List Int) (m : Nat) (x y : Int) (n : Nat) (hl : l.length = n) : ((l ++ List.replicate (m + 2) 0).set n x).set (n + 1) y = (l ++ [x, y]) ++ List.replicate m 0 := by
  subst hl
  rw [List.set_append_right _ _ (Nat.le_refl _), List.set_append_right _ _ (Nat.le_succ _)]
  simp [List.replicate_succ]
theorem hex_loop (b : ByteArray) (hb : b.size ≤ 140737488351232) (d : Nat) : ∀ (i k : Nat), i + d = b.size → d < k →
    depotref02_Hex.l0 k b (hexRow b i ++ List.replicate (2 * d) 0) (i : Int) = some (strOfNums (hexRow b b.size)) := by
  induction d with
  | zero =>
    intro i k hi hk
    obtain ⟨k, rfl⟩ : ∃ m, k = m + 1 := ⟨k - 1, by omega⟩
    obtain rfl : i = b.size := by omega
    simp only [depotref02_Hex.l0]
    rw [if_neg (by omega)]
    simp
  | succ d ih =>
    intro i k hi hk
    obtain ⟨k, rfl⟩ : ∃ m, k = m + 1 := ⟨k - 1, by omega⟩
    have hl : (hexRow b i ++ List.replicate (2 * (d + 1)) 0).length = 2 * b.size := by rw [List.length_append, hexRow_length, List.length_replicate]; omega
    have w1 : wrap64 (2 * (i : Int)) = ((2 * i : Nat) : Int) := by unfold wrap64; omega
    have w2 : wrap64 (((2 * i : Nat) : Int) + 1) = ((2 * i + 1 : Nat) : Int) := by unfold wrap64; omega
    have w3 : wrap64 ((i : Int) + 1) = ((i + 1 : Nat) : Int) := by unfold wrap64; omega
    simp only [depotref02_Hex.l0, w1, w2, w3, (digits_of b i).1, (digits_of b i).2, Option.bind_some, hl, Int.toNat_natCast]
    rw [if_pos (by omega), if_pos (by omega), if_pos (by omega), if_pos (by omega), if_pos (by omega), if_pos (by omega), show 2 * (d + 1) = 2 * d + 2 by omega, two_set _ _ _ _ _ (hexRow_length b i)]
    exact ih (i + 1) k (by omega) (by omega)
theorem hex_probe : radix_Hex.f (⟨#[240]⟩ : ByteArray) = some ⟨#[102, 48]⟩ := by decide +kernel
theorem hex_same (b : ByteArray) (hb : b.size ≤ 140737488351232) : depotref02_Hex.f (b.size + 1) b = radix_Hex.f b := by
  have w1 : wrap64 (2 * (b.size : Int)) = ((2 * b.size : Nat) : Int) := by unfold wrap64; omega
  unfold depotref02_Hex.f radix_Hex.f
  rw [w1, if_pos (by omega), if_pos (by omega), if_pos hb]
  have := hex_loop b hb b.size 0 (b.size + 1) (by omega) (by omega)
  rw [Int.toNat_natCast]
  simpa [hexRow] using this
theorem fromHex_is (s : ByteArray) (hs : s.size ≤ 140737488351232) : ∃ r e, radix_FromHex.f s = some (r, e) := by
  unfold radix_FromHex.f
  rw [if_pos hs]
  split
  · exact ⟨_, _, rfl⟩
  · split <;> exact ⟨_, _, rfl⟩
theorem RadixHexes : depotlaw02_RadixHexes.Pure := by
  intro b s hb hs
  refine ⟨b.size + 1, ?_⟩
  obtain ⟨r, e, hr⟩ := fromHex_is s hs
  have hh : radix_Hex.f b = some (strOfNums (hexRow b b.size)) := by unfold radix_Hex.f; rw [if_pos hb]
  unfold depotlaw02_RadixHexes.f
  rw [hex_probe]
  simp only [Option.bind_some]
  rw [if_pos (by decide +kernel), show depotref02_FromHex.f s = radix_FromHex.f s from rfl, hr, hex_same b hb, hh]
  simp

end Go.Proofs.Ytjbjdccnbjddjaa.Pure
