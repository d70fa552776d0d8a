import Derived.Test.YtkpicjhhkdjejaaPTablePlaysx1
import Derived.Test.YtkpicjhhkdjejaaPTablePlaysx2
import Derived.Test.YtkpicjhhkdjejaaPTablePlaysx3
import Derived.Test.YtkpicjhhkdjejaaTbPure
namespace Go.Proofs.Ytkpicjhhkdjejaa
open Go.RowKit Go.Proofs.YtkpicjhhkdjejaaW.PrintWords Go.Proofs.YtkpicjhhkdjejaaW.PrintLast Go.Proofs.YtkpicjhhkdjejaaW.PrintMore Go.Proofs.Ytkpicjhhkdjejaa.Tb Go.Proofs.Ytkpicjhhkdjejaa.PTablePlays
set_option linter.unusedVariables false
theorem less_s (a b : ByteArray) : cmp_Less_string.f a b = some (slt a b) := by simp [cmp_Less_string.f, cmp_isNaN_string.f, slt]
theorem nan_s (a : ByteArray) : slices_isNaN_string.f a = some false := by simp [slices_isNaN_string.f]
theorem half_s {i j : Nat} (h : i + j < 4611686018427387904) : wrap64 ((IntKind.u64.wrap (wrap64 ((i : Int) + (j : Int)))) / 2) = (((i + j) / 2 : Nat) : Int) := by
  have h1 : wrap64 ((i : Int) + (j : Int)) = ((i + j : Nat) : Int) := by unfold wrap64; omega
  have h2 : IntKind.u64.wrap ((i + j : Nat) : Int) = ((i + j : Nat) : Int) := by rw [IntKind.wrap_u64]; omega
  rw [h1, h2]
  unfold wrap64
  omega
theorem bs_loop_s {β : Type} (m : List (ByteArray × β)) (hs : Srt slt m) (k : ByteArray) (hn : m.length < 2305843009213693952) (b : Bool) (hb : b = true ↔ ∃ v, m[rank slt m k]? = some (k, v)) (d : Nat) : ∀ (f i j : Nat), i ≤ rank slt m k → rank slt m k ≤ j → j ≤ m.length → j - i ≤ d → d < f →
    slices_BinarySearch_string_string.l0 f (m.map (·.1)) k (m.length : Int) (i : Int) (j : Int) = some (((rank slt m k : Nat) : Int), b) := by
  have hget : ∀ (h : Nat) (hh : h < m.length), rdOf ByteArray.empty (m.map (·.1)) (h : Int) = (m[h]'hh).1 := fun h hh => by simp [rdOf, hh]
  induction d with
  | zero =>
    intro f i j h1 h2 h3 h4 hf
    obtain ⟨f, rfl⟩ : ∃ g, f = g + 1 := ⟨f - 1, by omega⟩
    obtain rfl : i = j := by omega
    have hri : rank slt m k = i := by omega
    simp only [slices_BinarySearch_string_string.l0]
    rw [if_neg (by omega), hri]
    by_cases hin : i < m.length
    · rw [if_pos (by omega), if_pos (by omega), if_pos (by rw [List.length_map]; omega), hget i hin]
      by_cases he : (m[i]'hin).1 = k
      · rw [if_pos (by rw [he])]
        rw [hri] at hb
        rw [hb.2 ⟨(m[i]'hin).2, by rw [List.getElem?_eq_getElem hin, ← he]⟩]
      · rw [if_neg (fun h => he (toList_inj h)), nan_s]
        simp only [Option.bind_some, Bool.false_eq_true, if_false]
        cases b with
        | false => rfl
        | true =>
          rw [hri] at hb
          obtain ⟨v, hv⟩ := hb.1 rfl
          rw [List.getElem?_eq_getElem hin] at hv
          exact absurd (by rw [Option.some.inj hv]) he
    · rw [if_neg (by omega)]
      cases b with
      | false => rfl
      | true =>
        rw [hri] at hb
        obtain ⟨v, hv⟩ := hb.1 rfl
        rw [List.getElem?_eq_none (by omega)] at hv
        cases hv
  | succ d ih =>
    intro f i j h1 h2 h3 h4 hf
    by_cases hij : i < j
    · obtain ⟨f, rfl⟩ : ∃ g, f = g + 1 := ⟨f - 1, by omega⟩
      simp only [slices_BinarySearch_string_string.l0]
      have hh : (i + j) / 2 < m.length := by omega
      rw [if_pos (by omega), half_s (by omega), if_pos (by omega), if_pos (by rw [List.length_map]; omega), hget _ hh, less_s]
      simp only [Option.bind_some]
      have hr := rank_lt slt_ord hs k ((i + j) / 2) _ (List.getElem?_eq_getElem hh)
      by_cases hl : slt (m[(i + j) / 2]'hh).1 k = true
      · rw [if_pos hl]
        have hw : wrap64 (((((i + j) / 2 : Nat) : Int)) + 1) = (((i + j) / 2 + 1 : Nat) : Int) := by unfold wrap64; omega
        rw [hw]
        have := hr.1 hl
        exact ih f _ _ (by omega) h2 h3 (by omega) (by omega)
      · rw [if_neg hl]
        have : ¬ (i + j) / 2 < rank slt m k := fun h => hl (hr.2 h)
        exact ih f _ _ h1 (by omega) (by omega) (by omega) (by omega)
    · exact ih f i j h1 h2 h3 (by omega) (by omega)
theorem has_at_s {β : Type} {m : List (ByteArray × β)} (hs : Srt slt m) (k : ByteArray) : (∃ v, m[rank slt m k]? = some (k, v)) ↔ has m k := by
  constructor
  · rintro ⟨v, hv⟩
    exact ⟨(k, v), List.mem_iff_getElem?.2 ⟨_, hv⟩, rfl⟩
  · intro h
    obtain ⟨v, hv, _⟩ := (behind slt_ord k m hs).1 h
    exact ⟨v, hv⟩
/-- slices.BinarySearch of the keys: the rank, and whether the key is there. -/
theorem bs_calls_s {β : Type} (m : List (ByteArray × β)) (hs : Srt slt m) (k : ByteArray) (hn : m.length < 2305843009213693952) (w : World) (base : Nat) (v : Value) (hown : w.ownsRow base 9 1 v m.length (m.map (fun p => Value.string p.1))) (b : Bool) (hb : b = true ↔ has m k) :
    Calls Try.prog 32 #[v, Value.string k] w fun e w' => e = .returned (.tuple #[.int .i64 ((rank slt m k : Nat) : Int), .bool b]) ∧ Drawn0 w w' := by
  have hx : encs Value.string (m.map (·.1)) = m.map (fun p => Value.string p.1) := by simp [encs, Function.comp_def]
  have hR : Kd.R Kd.string 9 w base (fun _ => True) v (m.map (·.1)) := Kd.R_of_own (h1 := fun _ => rfl) (by rw [List.length_map, hx]; exact hown) (fun _ _ => trivial)
  obtain ⟨A, c, hv, hlc, hC⟩ := Kd.R_reads hR
  have hf := bs_loop_s m hs k hn b (hb.trans (has_at_s hs k).symm) m.length (m.length + 1) 0 m.length (Nat.zero_le _) (rank_le _ _) (Nat.le_refl _) (by omega) (by omega)
  rw [hv]
  have hff : slices_BinarySearch_string_string.f (m.length + 1) (m.map (·.1)) k = some (((rank slt m k : Nat) : Int), b) := by
    unfold slices_BinarySearch_string_string.f
    rw [List.length_map]
    exact hf
  have HH := slices_BinarySearch_string_string.calls (m.length + 1) A c (m.map (·.1)) k _ _ w hC hlc hff
  clear hown hx hR hv hf hff hC
  rw [List.length_map] at HH ⊢
  exact HH
end Go.Proofs.Ytkpicjhhkdjejaa
