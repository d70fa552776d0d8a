import Derived.Test.YtkpicjhhkdjejaaTbPure
/-! What TableInts needs of its tables: the last value put under each key, the keys cut gone. -/
set_option linter.unusedVariables false
namespace Go.Proofs.Ytkpicjhhkdjejaa.Tb
def Last (keys : List Int) (j : Nat) (k v : Int) : Prop := ∃ i, i < j ∧ keys[i]? = some k ∧ v = (i : Int) ∧ ∀ i', i < i' → i' < j → keys[i']? ≠ some k
def L1 (keys : List Int) (j : Nat) (m : List (Int × Int)) : Prop := m.length ≤ j ∧ ∀ k v, (k, v) ∈ m ↔ Last keys j k v
def L2 (keys cuts : List Int) (c : Nat) (m : List (Int × Int)) : Prop := m.length ≤ keys.length ∧ ∀ k v, (k, v) ∈ m ↔ k ∉ cuts.take c ∧ Last keys keys.length k v
theorem L1_zero (keys : List Int) : L1 keys 0 [] := ⟨by simp, fun k v => ⟨fun h => by simp at h, fun ⟨i, hi, _⟩ => by omega⟩⟩
theorem L1_step {keys : List Int} {j : Nat} {m : List (Int × Int)} (h : L1 keys j m) {k : Int} (hk : keys[j]? = some k) : L1 keys (j + 1) (put ilt m k (j : Int)) := by
  refine ⟨Nat.le_trans (len_put ilt_ord m k _) (Nat.succ_le_succ h.1), fun x y => ?_⟩
  rw [mem_put ilt_ord, h.2]
  constructor
  · rintro (⟨rfl, rfl⟩ | ⟨hne, i, hi, hx, hy, hl⟩)
    · exact ⟨j, by omega, hk, rfl, fun i' h1 h2 => by omega⟩
    · refine ⟨i, by omega, hx, hy, fun i' h1 h2 => ?_⟩
      by_cases hj : i' = j
      · subst hj
        rw [hk]
        exact fun e => hne (Option.some.inj e).symm
      · exact hl i' h1 (by omega)
  · rintro ⟨i, hi, hx, hy, hl⟩
    by_cases hj : i = j
    · subst hj
      rw [hk] at hx
      exact .inl ⟨(Option.some.inj hx).symm, hy⟩
    · exact .inr ⟨fun e => hl j (by omega) (by omega) (by rw [hk, e]), i, by omega, hx, hy, fun i' h1 h2 => hl i' h1 (by omega)⟩
theorem L2_zero {keys cuts : List Int} {m : List (Int × Int)} (h : L1 keys keys.length m) : L2 keys cuts 0 m := ⟨h.1, fun k v => by rw [h.2]; simp⟩
theorem L2_step {keys cuts : List Int} {c : Nat} {m : List (Int × Int)} (h : L2 keys cuts c m) {k : Int} (hk : cuts[c]? = some k) : L2 keys cuts (c + 1) (cut ilt m k) ∧ ¬ has (cut ilt m k) k := by
  refine ⟨⟨Nat.le_trans (len_cut ilt_ord m k) h.1, fun x y => ?_⟩, fun hh => ?_⟩
  · rw [mem_cut ilt_ord, h.2]
    have ht : cuts.take (c + 1) = cuts.take c ++ [k] := by rw [List.take_add_one, hk]; rfl
    rw [ht, List.mem_append, List.mem_singleton]
    constructor
    · rintro ⟨hne, hn, hl⟩; exact ⟨fun h => h.elim hn hne, hl⟩
    · rintro ⟨hn, hl⟩; exact ⟨fun e => hn (.inr e), fun h => hn (.inl h), hl⟩
  · have := (has_cut ilt_ord m k k).1 hh
    exact this.1 rfl
/-- In the end: a key is there if it wasn't cut; its value is its last place. -/
theorem L2_end {keys cuts : List Int} {m : List (Int × Int)} (h : L2 keys cuts cuts.length m) {i : Nat} {k : Int} (hk : keys[i]? = some k) :
    (has m k ↔ k ∉ cuts) ∧ ∀ v, (k, v) ∈ m → (∀ i', i < i' → keys[i']? ≠ some k) → v = (i : Int) := by
  have hl : i < keys.length := (List.getElem?_eq_some_iff.1 hk).1
  constructor
  · rw [has_mem]
    constructor
    · rintro ⟨v, hv⟩
      have := ((h.2 k v).1 hv).1
      rwa [List.take_length] at this
    · intro hn
      -- the last place
      have : ∀ d, ∀ i, i + d = keys.length - 1 → i < keys.length → keys[i]? = some k → ∃ j, j < keys.length ∧ keys[j]? = some k ∧ ∀ i', j < i' → i' < keys.length → keys[i']? ≠ some k := by
        intro d
        induction d using Nat.strongRecOn with
        | _ d ih =>
        intro i hd hl hk
        by_cases hm : ∃ i', i < i' ∧ i' < keys.length ∧ keys[i']? = some k
        · obtain ⟨i', h1, h2, h3⟩ := hm
          exact ih (keys.length - 1 - i') (by omega) i' (by omega) h2 h3
        · exact ⟨i, hl, hk, fun i' h1 h2 h3 => hm ⟨i', h1, h2, h3⟩⟩
      obtain ⟨j, hj, hjk, hjl⟩ := this (keys.length - 1 - i) i (by omega) hl hk
      exact ⟨(j : Int), (h.2 k j).2 ⟨by rwa [List.take_length], j, hj, hjk, rfl, hjl⟩⟩
  · intro v hv hlast
    obtain ⟨_, i2, hi2, hk2, rfl, hl2⟩ := (h.2 k v).1 hv
    have h1 : ¬ i < i2 := fun hlt => hlast i2 hlt hk2
    have h2 : ¬ i2 < i := fun hlt => hl2 i hlt hl hk
    have : i = i2 := by omega
    rw [this]
end Go.Proofs.Ytkpicjhhkdjejaa.Tb
