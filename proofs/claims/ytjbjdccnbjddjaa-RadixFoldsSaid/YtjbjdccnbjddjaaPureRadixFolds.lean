/- Every Fold: for every text b and number n, radix.Fold answers as the document's Fold does. -/
import Derived.Test.YtjbjdccnbjddjaaPRadixFoldsx1
namespace Go.Proofs.Ytjbjdccnbjddjaa.Pure
open Go.RowKit Go.Proofs.Ytjbjdccnbjddjaa.PRadixFolds Go.Proofs.YtjbjdccnbjddjaaW.PrintWords Go.Proofs.YtjbjdccnbjddjaaW.PrintLast

theorem fold_probe : radix_Fold.f (⟨#[1, 2, 4]⟩ : ByteArray) 2 = some (⟨#[5, 2]⟩, 0) := by kernel_rfl

theorem rd_take (l : List Int) (n : Nat) (i : Int) (h : i.toNat < n) : rd (l.take n) i = rd l i := by
  unfold rd
  simp [List.getD_eq_getElem?_getD, h]
theorem ref_loop (b : ByteArray) (n : Int) (h1 : 1 ≤ n) (h2 : n ≤ 64) (hb : b.size ≤ 140737488351232) (d : Nat) : ∀ (i k : Nat), i + d = b.size → d < k →
    depotref02_Fold.l0 k b n ((foldRoom b n i).take n.toNat) (i : Int) = some (strOfNums ((foldRoom b n b.size).take n.toNat), 0) := by
  induction d with
  | zero =>
    intro i k hi hk
    obtain ⟨k, rfl⟩ : ∃ m, k = m + 1 := ⟨k - 1, by omega⟩
    obtain rfl : i = b.size := by omega
    simp only [depotref02_Fold.l0]
    rw [if_neg (by omega)]
  | succ d ih =>
    intro i k hi hk
    obtain ⟨k, rfl⟩ : ∃ m, k = m + 1 := ⟨k - 1, by omega⟩
    have hm0 : 0 ≤ Int.tmod (i : Int) n := Int.tmod_nonneg _ (by omega)
    have hm1 : Int.tmod (i : Int) n < n := Int.tmod_lt_of_pos _ (by omega)
    have hl : ((foldRoom b n i).take n.toNat).length = n.toNat := by rw [List.length_take, foldRoom_length]; omega
    have hw : wrap64 ((i : Int) + 1) = ((i + 1 : Nat) : Int) := by unfold wrap64; omega
    simp only [depotref02_Fold.l0]
    rw [if_pos (by omega), if_neg (by omega), if_pos hm0, hl, if_pos (by omega), if_pos (by omega), hw, rd_take _ _ _ (by omega)]
    have e : ((foldRoom b n i).take n.toNat).set (Int.tmod (i : Int) n).toNat (Go.bits .xor .u8 (rd (foldRoom b n i) (Int.tmod (i : Int) n)) (bt b i)) = (foldRoom b n (i + 1)).take n.toNat := by
      rw [foldRoom, List.take_set]
    rw [e]
    exact ih (i + 1) k (by omega) (by omega)

theorem RadixFolds : depotlaw02_RadixFolds.Pure := by
  intro b n hb hn
  refine ⟨b.size + 3, ?_⟩
  unfold depotlaw02_RadixFolds.f
  rw [fold_probe]
  simp only [Option.bind_some]
  rw [if_pos (by decide +kernel)]
  simp only [depotlaw02_RadixFolds.j0]
  rw [if_neg (by decide)]
  unfold radix_Fold.f depotref02_Fold.f
  rw [if_pos hb]
  by_cases h1 : n < 1
  · rw [if_pos h1, if_pos h1]
    simp only [depotref02_Fold.j0, Option.bind_some]
    simp
  · rw [if_neg h1, if_neg h1]
    by_cases h2 : n > 64
    · rw [if_pos h2]
      simp only [depotref02_Fold.j0, Option.bind_some]
      rw [if_pos (decide_eq_true h2)]
      simp
    · rw [if_neg h2]
      simp only [depotref02_Fold.j0, Option.bind_some]
      rw [if_neg (by simpa using h2), if_pos (by omega), if_pos (by omega)]
      have e : (List.replicate n.toNat 0 : List Int) = (foldRoom b n 0).take n.toNat := by
        rw [foldRoom, List.take_replicate]
        congr 1
        omega
      rw [e, show (0 : Int) = ((0 : Nat) : Int) from rfl, ref_loop b n (by omega) (by omega) hb b.size 0 _ (by omega) (by omega)]
      simp

end Go.Proofs.Ytjbjdccnbjddjaa.Pure
