import Derived.Test.YtjbjdccnbjddjaaB32Back
import Derived.Test.YtjbjdccnbjddjaaHexBack
import Derived.Test.YtjbjdccnbjddjaaExtTurned
namespace Go.Proofs.Ytjbjdccnbjddjaa
open Go.RowKit Go.Proofs.YtjbjdccnbjddjaaW.PrintWords Go.Proofs.YtjbjdccnbjddjaaW.PrintMore

/-! ### Digits, the highest first, stand in the numbers' order -/
def topFirst (U : Nat → UInt8) (f : Nat → Nat) : Nat → List UInt8
  | 0 => []
  | m + 1 => U (f m) :: topFirst U f m
def sumOf (B : Nat) (f : Nat → Nat) : Nat → Nat
  | 0 => 0
  | m + 1 => sumOf B f m + f m * B ^ m
theorem sumOf_lt (B : Nat) (f : Nat → Nat) (hf : ∀ j, f j < B) (m : Nat) : sumOf B f m < B ^ m := by
  induction m with
  | zero => simp [sumOf]
  | succ m ih =>
    have h1 : (f m + 1) * B ^ m ≤ B * B ^ m := Nat.mul_le_mul_right _ (hf m)
    rw [sumOf, Nat.pow_succ, Nat.mul_comm (B ^ m)]
    rw [Nat.add_mul] at h1
    omega
theorem less_digits (B : Nat) (U : Nat → UInt8) (hU : ∀ c d, c < B → d < B → ((U c < U d) = (c < d)) ∧ ((U c = U d) = (c = d))) (f g : Nat → Nat) (hf : ∀ j, f j < B) (hg : ∀ j, g j < B) (m : Nat) :
    Op.bytesLess (topFirst U f m) (topFirst U g m) = true ↔ sumOf B f m < sumOf B g m := by
  induction m with
  | zero => simp [topFirst, sumOf, Op.bytesLess]
  | succ m ih =>
    obtain ⟨h1, h2⟩ := hU (f m) (g m) (hf m) (hg m)
    have hp := sumOf_lt B f hf m
    have hq := sumOf_lt B g hg m
    rw [topFirst, topFirst, Op.bytesLess, sumOf, sumOf]
    simp only [Bool.or_eq_true, Bool.and_eq_true, decide_eq_true_eq, beq_iff_eq, h1, h2, ih]
    rcases Nat.lt_trichotomy (f m) (g m) with h | h | h
    · have : (f m + 1) * B ^ m ≤ g m * B ^ m := Nat.mul_le_mul_right _ h
      rw [Nat.add_mul] at this
      constructor
      · intro _
        omega
      · intro _
        exact .inl h
    · rw [h]
      constructor
      · rintro (h | ⟨_, h⟩)
        · omega
        · omega
      · intro _
        exact .inr ⟨rfl, by omega⟩
    · have : (g m + 1) * B ^ m ≤ f m * B ^ m := Nat.mul_le_mul_right _ h
      rw [Nat.add_mul] at this
      constructor
      · rintro (h | ⟨h, _⟩) <;> omega
      · intro _
        omega
theorem topFirst_length (U : Nat → UInt8) (f : Nat → Nat) (m : Nat) : (topFirst U f m).length = m := by
  induction m with
  | zero => rfl
  | succ m ih => simp [topFirst, ih]
theorem topFirst_get (U : Nat → UInt8) (f : Nat → Nat) (m p : Nat) (hp : p < m) : (topFirst U f m)[p]'(by rw [topFirst_length]; exact hp) = U (f (m - 1 - p)) := by
  induction m generalizing p with
  | zero => omega
  | succ m ih =>
    cases p with
    | zero => rfl
    | succ p =>
      simp only [topFirst, List.getElem_cons_succ]
      rw [ih p (by omega), show m + 1 - 1 - (p + 1) = m - 1 - p by omega]
/-- A text whose bytes are told is that list. -/
theorem text_topFirst (s : ByteArray) (U : Nat → UInt8) (f : Nat → Nat) (m : Nat) (hs : s.size = m) (h : ∀ p : Nat, p < m → bt s p = ((U (f (m - 1 - p))).toNat : Int)) : s.toList = topFirst U f m := by
  rw [ByteArray.toList_eq]
  apply List.ext_getElem
  · rw [topFirst_length, ← hs]
    rfl
  · intro p h1 h2
    rw [topFirst_length] at h2
    rw [topFirst_get _ _ _ _ h2]
    have hb := h p h2
    have hp : p < s.size := by omega
    unfold bt at hb
    rw [dif_pos (by simpa using hp)] at hb
    simp only [Int.toNat_natCast] at hb
    apply UInt8.toNat_inj.1
    have : s.data.toList[p] = s[p]'hp := by simp [ByteArray.getElem_eq_getElem_data]
    rw [this]
    omega
theorem turnRow_rd (a : ByteArray) (k : Nat) (hk : k ≤ a.size) (j : Nat) (hj : j < a.size) : rd (turnRow a k) (j : Int) = if j < k then bt a ((a.size : Int) - 1 - j) else 0 := by
  induction k with
  | zero =>
    rw [if_neg (by omega)]
    simp only [turnRow, rd, Int.toNat_natCast, List.getD_eq_getElem?_getD, List.getElem?_replicate]
    split <;> rfl
  | succ k ih =>
    rw [turnRow, rd_set _ _ _ _ (by rw [turnRow_length]; omega), ih (by omega)]
    by_cases e : j = k
    · subst e
      rw [if_pos rfl, if_pos (by omega)]
    · rw [if_neg e]
      by_cases h : j < k
      · rw [if_pos h, if_pos (by omega)]
      · rw [if_neg h, if_neg (by omega)]
theorem turned_list (a : ByteArray) : (strOfNums (turnRow a a.size)).toList = topFirst UInt8.ofNat (byteN a) a.size := by
  refine text_topFirst _ _ _ _ (by rw [strOfNums_size, turnRow_length]) fun p hp => ?_
  have hr := turnRow_rd a a.size (Nat.le_refl _) p hp
  rw [if_pos hp] at hr
  rw [bt_strOfNums _ _ (by rw [turnRow_length]; exact hp) (by rw [hr]; exact byte_bt _ _), hr]
  have hb := byteN_lt a (a.size - 1 - p)
  have e := byteN_bt a (a.size - 1 - p)
  rw [show (a.size : Int) - 1 - p = ((a.size - 1 - p : Nat) : Int) by omega, ← e]
  rw [UInt8.toNat_ofNat', Nat.mod_eq_of_lt (by omega)]
def letterU (d : Nat) : UInt8 := UInt8.ofNat (lt (d % 32)).toNat
theorem letterU_order : ∀ c d : Fin 32, ((letterU c.val < letterU d.val) = (c.val < d.val)) ∧ ((letterU c.val = letterU d.val) = (c.val = d.val)) := by
  have h : ∀ c d : Fin 32, (decide (letterU c.val < letterU d.val) = decide (c.val < d.val)) ∧ (decide (letterU c.val = letterU d.val) = decide (c.val = d.val)) := by decide +kernel
  intro c d
  obtain ⟨h1, h2⟩ := h c d
  exact ⟨propext (decide_eq_decide.1 h1), propext (decide_eq_decide.1 h2)⟩
theorem letterU_lt (d : Nat) (h : d < 32) : ((letterU d).toNat : Int) = lt d := by
  obtain ⟨h0, h1⟩ := lt_byte d h
  unfold letterU
  rw [Nat.mod_eq_of_lt h, UInt8.toNat_ofNat', Nat.mod_eq_of_lt (by omega)]
  omega
theorem b32_list (b : ByteArray) : (b32 b).toList = topFirst letterU (fun j => numN b b.size / 32 ^ j % 32) ((8 * b.size + 4) / 5) := by
  refine text_topFirst _ _ _ _ (b32_size b) fun p hp => ?_
  rw [bt_b32 b p hp]
  exact (letterU_lt _ (Nat.mod_lt _ (by omega))).symm
theorem sum_digits (v : Nat) (m : Nat) : sumOf 32 (fun j => v / 32 ^ j % 32) m = v % 32 ^ m := by
  induction m with
  | zero => simp [sumOf, Nat.mod_one]
  | succ m ih => rw [sumOf, ih, Nat.mod_pow_succ, Nat.mul_comm (32 ^ m)]
theorem sum_bytes (b : ByteArray) (n : Nat) : sumOf 256 (byteN b) n = numN b n := by
  induction n with
  | zero => rfl
  | succ n ih => rw [sumOf, numN, ih]
theorem b32_order (a b : ByteArray) (h : a.size = b.size) : Op.bytesLess (strOfNums (turnRow a a.size)).toList (strOfNums (turnRow b b.size)).toList = Op.bytesLess (b32 a).toList (b32 b).toList := by
  have hv : ∀ c : ByteArray, numN c c.size % 32 ^ ((8 * c.size + 4) / 5) = numN c c.size := by
    intro c
    rw [Nat.mod_eq_of_lt]
    refine Nat.lt_of_lt_of_le (numN_lt c c.size) ?_
    rw [pow256, pow32]
    exact Nat.pow_le_pow_right (by omega) (by omega)
  have ha := hv a
  have hb := hv b
  rw [turned_list, turned_list, b32_list, b32_list, h]
  rw [h] at ha
  rw [Bool.eq_iff_iff, less_digits 256 UInt8.ofNat (fun c d hc hd => ?_) _ _ (byteN_lt a) (byteN_lt b), less_digits 32 letterU (fun c d hc hd => letterU_order ⟨c, hc⟩ ⟨d, hd⟩) _ _ (fun j => Nat.mod_lt _ (by omega)) (fun j => Nat.mod_lt _ (by omega)), sum_digits, sum_digits, sum_bytes, sum_bytes, ha, hb]
  refine ⟨propext ?_, propext ?_⟩
  · rw [UInt8.lt_iff_toNat_lt, UInt8.toNat_ofNat', UInt8.toNat_ofNat', Nat.mod_eq_of_lt (by omega), Nat.mod_eq_of_lt (by omega)]
  · rw [← UInt8.toNat_inj, UInt8.toNat_ofNat', UInt8.toNat_ofNat', Nat.mod_eq_of_lt (by omega), Nat.mod_eq_of_lt (by omega)]

/-! ### Hexadecimal texts -/
def hexU (d : Nat) : UInt8 := UInt8.ofNat (bt hexText (d : Int)).toNat
theorem hexU_order : ∀ c d : Fin 16, ((hexU c.val < hexU d.val) = (c.val < d.val)) ∧ ((hexU c.val = hexU d.val) = (c.val = d.val)) := by
  have h : ∀ c d : Fin 16, (decide (hexU c.val < hexU d.val) = decide (c.val < d.val)) ∧ (decide (hexU c.val = hexU d.val) = decide (c.val = d.val)) := by decide +kernel
  intro c d
  obtain ⟨h1, h2⟩ := h c d
  exact ⟨propext (decide_eq_decide.1 h1), propext (decide_eq_decide.1 h2)⟩
def hexList (l : List UInt8) : List UInt8 := l.flatMap fun c => [hexU (c.toNat / 16), hexU (c.toNat % 16)]
theorem hexList_less (x y : List UInt8) : Op.bytesLess (hexList x) (hexList y) = Op.bytesLess x y := by
  induction x generalizing y with
  | nil => cases y <;> rfl
  | cons a x ih =>
    cases y with
    | nil => rfl
    | cons b y =>
      have ha := a.toNat_lt
      have hb := b.toNat_lt
      obtain ⟨h1, h2⟩ := hexU_order ⟨a.toNat / 16, by omega⟩ ⟨b.toNat / 16, by omega⟩
      obtain ⟨h3, h4⟩ := hexU_order ⟨a.toNat % 16, by omega⟩ ⟨b.toNat % 16, by omega⟩
      have e : ∀ c (l : List UInt8), hexList (c :: l) = hexU (c.toNat / 16) :: hexU (c.toNat % 16) :: hexList l := fun _ _ => rfl
      rw [e, e]
      simp only [Op.bytesLess, ih]
      rw [Bool.eq_iff_iff]
      simp only [Bool.or_eq_true, Bool.and_eq_true, decide_eq_true_eq, beq_iff_eq, h1, h2, h3, h4, UInt8.lt_iff_toNat_lt, ← UInt8.toNat_inj]
      constructor
      · rintro (h | ⟨h, h' | ⟨h', h''⟩⟩)
        · exact .inl (by omega)
        · exact .inl (by omega)
        · exact .inr ⟨by omega, h''⟩
      · rintro (h | ⟨h, h''⟩)
        · by_cases g : a.toNat / 16 < b.toNat / 16
          · exact .inl g
          · exact .inr ⟨by omega, .inl (by omega)⟩
        · exact .inr ⟨by omega, .inr ⟨by omega, h''⟩⟩
theorem hexRow_list (b : ByteArray) (k : Nat) (hk : k ≤ b.size) : (hexRow b k).map (fun n => UInt8.ofNat n.toNat) = hexList (b.data.toList.take k) := by
  induction k with
  | zero => rfl
  | succ k ih =>
    have hk' : k < b.data.toList.length := by
      have : b.data.toList.length = b.size := rfl
      omega
    rw [hexRow, List.map_append, ih (by omega), List.take_succ_eq_append_getElem hk']
    unfold hexList
    rw [List.flatMap_append]
    congr 1
    have e : bt b k = ((b.data.toList[k]).toNat : Int) := by
      unfold bt
      have hk2 : k < b.size := hk'
      rw [dif_pos (by simpa using hk2)]
      simp [ByteArray.getElem_eq_getElem_data]
    rw [and15_bt, e]
    simp [hexU]
theorem hexT_list (b : ByteArray) : (hexT b).toList = hexList b.toList := by
  rw [ByteArray.toList_eq, ByteArray.toList_eq, hexT, strOfNums_data, hexRow_list b b.size (Nat.le_refl _), List.take_of_length_le (show b.data.toList.length ≤ b.size from Nat.le_refl _)]
theorem hex_order (a b : ByteArray) : Op.bytesLess (hexT a).toList (hexT b).toList = Op.bytesLess a.toList b.toList := by
  rw [hexT_list, hexT_list, hexList_less]
end Go.Proofs.Ytjbjdccnbjddjaa
