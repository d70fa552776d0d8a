import Derived.Test.YtjbjdccnbjddjaaExtFold
import Derived.Test.YtjbjdccnbjddjaaExtMixed
import Derived.Laws.BitsAllLaws
namespace Go.Proofs.Ytjbjdccnbjddjaa
open Go.RowKit Go.Proofs.YtjbjdccnbjddjaaW.PrintWords

/-- The exclusive or of two bytes. -/
def xz (x y : Int) : Int := Go.bits .xor .u8 x y
def Byte (x : Int) : Prop := 0 ≤ x ∧ x < 256
theorem xz_nat {x y : Int} (hx : Byte x) (hy : Byte y) : xz x y = ((x.toNat ^^^ y.toNat : Nat) : Int) := u8_xor x y hx.1 hx.2 hy.1 hy.2
theorem xz_byte {x y : Int} (hx : Byte x) (hy : Byte y) : Byte (xz x y) := by
  rw [xz_nat hx hy]
  obtain ⟨a, b⟩ := hx
  obtain ⟨c, d⟩ := hy
  have : x.toNat ^^^ y.toNat < 2 ^ 8 := Nat.xor_lt_two_pow (by omega) (by omega)
  exact ⟨by omega, by omega⟩
theorem xz_toNat {x y : Int} (hx : Byte x) (hy : Byte y) : (xz x y).toNat = x.toNat ^^^ y.toNat := by rw [xz_nat hx hy]; omega
theorem byte_ext {x y : Int} (hx : Byte x) (hy : Byte y) (h : x.toNat = y.toNat) : x = y := by
  obtain ⟨a, b⟩ := hx
  obtain ⟨c, d⟩ := hy
  omega
/-- (a + b) + (c + d) = (a + c) + (b + d), of exclusive ors. -/
theorem xz_four {a b c d : Int} (ha : Byte a) (hb : Byte b) (hc : Byte c) (hd : Byte d) : xz (xz a b) (xz c d) = xz (xz a c) (xz b d) := by
  refine byte_ext (xz_byte (xz_byte ha hb) (xz_byte hc hd)) (xz_byte (xz_byte ha hc) (xz_byte hb hd)) ?_
  rw [xz_toNat (xz_byte ha hb) (xz_byte hc hd), xz_toNat (xz_byte ha hc) (xz_byte hb hd), xz_toNat ha hb, xz_toNat hc hd, xz_toNat ha hc, xz_toNat hb hd]
  rw [Nat.xor_assoc, Nat.xor_assoc, ← Nat.xor_assoc b.toNat, ← Nat.xor_assoc c.toNat, Nat.xor_comm b.toNat c.toNat]
theorem xz_zero : xz 0 0 = 0 := by decide
theorem xz_zero_left {x : Int} (hx : Byte x) : xz 0 x = x := by
  refine byte_ext (xz_byte ⟨by omega, by omega⟩ hx) hx ?_
  rw [xz_toNat ⟨by omega, by omega⟩ hx]
  simp
theorem byte_zero : Byte 0 := ⟨by omega, by omega⟩
theorem byte_bt (s : ByteArray) (i : Int) : Byte (bt s i) := by have := bt_range s i; exact ⟨by omega, by omega⟩

theorem rd_set (l : List Int) (i j : Nat) (x : Int) (h : i < l.length) : rd (l.set i x) (j : Int) = if j = i then x else rd l j := by
  unfold rd
  simp only [Int.toNat_natCast, List.getD_eq_getElem?_getD, List.getElem?_set]
  by_cases e : i = j
  · subst e
    simp [h]
  · rw [if_neg e, if_neg (fun h => e h.symm)]
theorem rd_ext {l m : List Int} (hl : l.length = m.length) (h : ∀ j : Nat, j < l.length → rd l j = rd m j) : l = m := by
  apply List.ext_getElem hl
  intro j h1 h2
  have := h j h1
  simpa [rd, List.getD_eq_getElem?_getD, h1, h2] using this

theorem bt_strOfNums (l : List Int) (i : Nat) (hi : i < l.length) (hb : Byte (rd l i)) : bt (strOfNums l) i = rd l i := by
  unfold bt
  rw [dif_pos (by rw [strOfNums_size]; simpa using hi)]
  have e : (strOfNums l)[((i : Int)).toNat]'(by rw [strOfNums_size]; simpa using hi) = UInt8.ofNat (rd l i).toNat := by
    simp [strOfNums, ByteArray.getElem_eq_getElem_data, rd, List.getD_eq_getElem?_getD, hi]
  rw [e]
  obtain ⟨h0, h1⟩ := hb
  simp [UInt8.toNat_ofNat']
  omega

theorem foldRoom_rd (b : ByteArray) (n : Int) (h1 : 1 ≤ n) (h2 : n ≤ 64) (k : Nat) (j : Nat) : rd (foldRoom b n (k + 1)) j = if j = (Int.tmod k n).toNat then xz (rd (foldRoom b n k) j) (bt b k) else rd (foldRoom b n k) j := by
  have hm0 : 0 ≤ Int.tmod (k : Int) n := Int.tmod_nonneg _ (by omega)
  have hm1 : Int.tmod (k : Int) n < n := Int.tmod_lt_of_pos _ (by omega)
  have hl := foldRoom_length b n k
  rw [foldRoom, rd_set _ _ _ _ (by omega)]
  by_cases e : j = (Int.tmod k n).toNat
  · rw [if_pos e, if_pos e, show ((j : Int)) = Int.tmod k n by omega]
    rfl
  · rw [if_neg e, if_neg e]
theorem foldRoom_byte (b : ByteArray) (n : Int) (h1 : 1 ≤ n) (h2 : n ≤ 64) (k : Nat) (j : Nat) : Byte (rd (foldRoom b n k) j) := by
  induction k with
  | zero =>
    have : rd (foldRoom b n 0) j = 0 := by
      simp only [foldRoom, rd, Int.toNat_natCast, List.getD_eq_getElem?_getD, List.getElem?_replicate]
      split <;> rfl
    rw [this]
    exact byte_zero
  | succ k ih =>
    rw [foldRoom_rd b n h1 h2]
    split
    · exact xz_byte ih (byte_bt _ _)
    · exact ih
theorem foldRoom_rd_zero (b : ByteArray) (n : Int) (j : Nat) : rd (foldRoom b n 0) j = 0 := by
  simp only [foldRoom, rd, Int.toNat_natCast, List.getD_eq_getElem?_getD, List.getElem?_replicate]
  split <;> rfl

theorem mixRow_rd (a b : ByteArray) (hab : a.size ≤ b.size) (k : Nat) (hk : k ≤ a.size) (j : Nat) (hj : j < a.size) : rd (mixRow a b k) j = if j < k then xz (bt a j) (bt b j) else 0 := by
  induction k with
  | zero =>
    simp only [mixRow, rd, Int.toNat_natCast, List.getD_eq_getElem?_getD, List.getElem?_replicate]
    rw [if_pos hj]
    rfl
  | succ k ih =>
    rw [mixRow, if_pos (by omega), rd_set _ _ _ _ (by rw [mixRow_length]; omega), ih (by omega)]
    by_cases e : j = k
    · subst e
      rw [if_pos rfl, if_pos (by omega)]
      rfl
    · rw [if_neg e]
      by_cases h : j < k
      · rw [if_pos h, if_pos (by omega)]
      · rw [if_neg h, if_neg (by omega)]
theorem bt_mix (a b : ByteArray) (hab : a.size ≤ b.size) (j : Nat) (hj : j < a.size) : bt (strOfNums (mixRow a b a.size)) j = xz (bt a j) (bt b j) := by
  have e := mixRow_rd a b hab a.size (Nat.le_refl _) j hj
  rw [if_pos hj] at e
  rw [bt_strOfNums _ _ (by rw [mixRow_length]; exact hj) (by rw [e]; exact xz_byte (byte_bt _ _) (byte_bt _ _)), e]
theorem foldRoom_mix (a b : ByteArray) (hab : a.size = b.size) (n : Int) (h1 : 1 ≤ n) (h2 : n ≤ 64) (k : Nat) (hk : k ≤ a.size) (j : Nat) :
    rd (foldRoom (strOfNums (mixRow a b a.size)) n k) j = xz (rd (foldRoom a n k) j) (rd (foldRoom b n k) j) := by
  induction k with
  | zero => rw [foldRoom_rd_zero, foldRoom_rd_zero, foldRoom_rd_zero, xz_zero]
  | succ k ih =>
    rw [foldRoom_rd _ n h1 h2, foldRoom_rd a n h1 h2, foldRoom_rd b n h1 h2]
    by_cases e : j = (Int.tmod k n).toNat
    · rw [if_pos e, if_pos e, if_pos e, ih (by omega), bt_mix a b (by omega) k (by omega)]
      exact xz_four (foldRoom_byte a n h1 h2 k j) (foldRoom_byte b n h1 h2 k j) (byte_bt _ _) (byte_bt _ _)
    · rw [if_neg e, if_neg e, if_neg e, ih (by omega)]
theorem rd_take (l : List Int) (n : Nat) (i : Nat) (h : i < n) : rd (l.take n) i = rd l i := by
  unfold rd
  simp [List.getD_eq_getElem?_getD, h]
/-- The fold, in range. -/
def foldText (b : ByteArray) (n : Int) : ByteArray := strOfNums ((foldRoom b n b.size).take n.toNat)
theorem foldText_size (b : ByteArray) (n : Int) (h1 : 1 ≤ n) (h2 : n ≤ 64) : (foldText b n).size = n.toNat := by
  rw [foldText, strOfNums_size, List.length_take, foldRoom_length]
  omega
theorem bt_foldText (b : ByteArray) (n : Int) (h1 : 1 ≤ n) (h2 : n ≤ 64) (j : Nat) (hj : j < n.toNat) : bt (foldText b n) j = rd (foldRoom b n b.size) j := by
  rw [foldText, bt_strOfNums _ _ (by rw [List.length_take, foldRoom_length]; omega) (by rw [rd_take _ _ _ hj]; exact foldRoom_byte b n h1 h2 _ _), rd_take _ _ _ hj]
theorem fold_mix (a b : ByteArray) (hab : a.size = b.size) (n : Int) (h1 : 1 ≤ n) (h2 : n ≤ 64) :
    strOfNums (mixRow (foldText a n) (foldText b n) (foldText a n).size) = foldText (strOfNums (mixRow a b a.size)) n := by
  have hs : (strOfNums (mixRow a b a.size)).size = a.size := by rw [strOfNums_size, mixRow_length]
  have e : mixRow (foldText a n) (foldText b n) (foldText a n).size = (foldRoom (strOfNums (mixRow a b a.size)) n (strOfNums (mixRow a b a.size)).size).take n.toNat := by
    refine rd_ext (by rw [mixRow_length, foldText_size a n h1 h2, List.length_take, foldRoom_length]; omega) fun j hj => ?_
    rw [mixRow_length, foldText_size a n h1 h2] at hj
    rw [mixRow_rd _ _ (by rw [foldText_size a n h1 h2, foldText_size b n h1 h2]; exact Nat.le_refl _) _ (Nat.le_refl _) j (by rw [foldText_size a n h1 h2]; exact hj), if_pos (by rw [foldText_size a n h1 h2]; exact hj),
      rd_take _ _ _ hj, hs, foldRoom_mix a b hab n h1 h2 _ (Nat.le_refl _), bt_foldText a n h1 h2 j hj, bt_foldText b n h1 h2 j hj, hab]
  rw [e]
  rfl
/-- A text that fits is folded into itself with noughts behind. -/
theorem foldRoom_self (b : ByteArray) (n : Int) (h1 : 1 ≤ n) (h2 : n ≤ 64) (hb : (b.size : Int) ≤ n) (k : Nat) (hk : k ≤ b.size) (j : Nat) : rd (foldRoom b n k) j = if j < k then bt b j else 0 := by
  induction k with
  | zero => rw [foldRoom_rd_zero, if_neg (by omega)]
  | succ k ih =>
    have hm : Int.tmod (k : Int) n = k := Int.tmod_eq_of_lt (by omega) (by omega)
    rw [foldRoom_rd b n h1 h2, hm, ih (by omega)]
    by_cases e : j = k
    · subst e
      rw [if_pos (by omega), if_neg (by omega), if_pos (by omega), xz_zero_left (byte_bt _ _)]
    · rw [if_neg (by omega)]
      by_cases h : j < k
      · rw [if_pos h, if_pos (by omega)]
      · rw [if_neg h, if_neg (by omega)]
theorem byteArray_ext {s t : ByteArray} (hs : s.size = t.size) (h : ∀ j : Nat, j < s.size → bt s j = bt t j) : s = t := by
  apply ByteArray.ext
  apply Array.ext hs
  intro i h1 h2
  have h1' : i < s.size := h1
  have h2' : i < t.size := h2
  have e := h i h1
  unfold bt at e
  rw [dif_pos (by simpa using h1'), dif_pos (by simpa using h2')] at e
  simp only [Int.toNat_natCast] at e
  have := UInt8.toNat_inj.1 (by omega : (s[i]'h1').toNat = (t[i]'h2').toNat)
  simpa [ByteArray.getElem_eq_getElem_data] using this
theorem bt_extract (s : ByteArray) (m : Nat) (hm : m ≤ s.size) (j : Nat) (hj : j < m) : bt (s.extract 0 m) j = bt s j := by
  have hz : (s.extract 0 m).size = m := by rw [ByteArray.size_extract]; omega
  unfold bt
  rw [dif_pos (by rw [hz]; simpa using hj), dif_pos (show ((j : Int)).toNat < s.size by simp; omega)]
  simp [ByteArray.getElem_eq_getElem_data]
theorem fold_self (b : ByteArray) (n : Int) (h1 : 1 ≤ n) (h2 : n ≤ 64) (hb : (b.size : Int) ≤ n) : (foldText b n).extract 0 b.size = b := by
  have hs := foldText_size b n h1 h2
  refine byteArray_ext (by rw [ByteArray.size_extract]; omega) fun j hj => ?_
  have hj' : j < b.size := by rw [ByteArray.size_extract] at hj; omega
  rw [bt_extract _ _ (by omega) _ hj', bt_foldText b n h1 h2 j (by omega), foldRoom_self b n h1 h2 hb _ (Nat.le_refl _), if_pos hj']
end Go.Proofs.Ytjbjdccnbjddjaa
