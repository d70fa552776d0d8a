import Derived.Test.YtkpicjhhkdjejaaPTablePlaysx1
import Derived.Test.YtkpicjhhkdjejaaPTablePlaysx2
import Derived.Test.YtkpicjhhkdjejaaPTablePlaysx3
import Derived.Test.YtkpicjhhkdjejaaTbPure
/-! What the document's functions over a table compute, in words of lists. -/
set_option linter.unusedVariables false
namespace Go.Proofs.Ytkpicjhhkdjejaa
open Go.RowKit Go.Proofs.YtkpicjhhkdjejaaW.PrintWords Go.Proofs.YtkpicjhhkdjejaaW.PrintLast Go.Proofs.YtkpicjhhkdjejaaW.PrintMore Go.Proofs.Ytkpicjhhkdjejaa.Tb Go.Proofs.Ytkpicjhhkdjejaa.PTablePlays
abbrev Pr := S40
def ofP (p : ByteArray × Int) : Pr := ⟨p.1, p.2⟩
def toP (p : Pr) : ByteArray × Int := (p.f0, p.f1)
theorem toP_ofP (p : ByteArray × Int) : toP (ofP p) = p := rfl
theorem ofP_toP (p : Pr) : ofP (toP p) = p := rfl
theorem rdP {l : List Pr} {j : Nat} (h : j < l.length) : rd_T40 l (j : Int) = l[j] := by simp [rd_T40, h]
theorem wrap_up {j n : Nat} (h : j < n) (hn : n ≤ 140737488355328) : wrap64 ((j : Int) + 1) = ((j + 1 : Nat) : Int) := by unfold wrap64; omega
theorem take_succ_snoc {α : Type} {l : List α} {j : Nat} (h : j < l.length) : l.take (j + 1) = l.take j ++ [l[j]] := by rw [List.take_add_one, List.getElem?_eq_getElem h]; rfl
theorem put_loop (l : List Pr) (k : ByteArray) (v : Int) (hl : l.length < 5864062014805) (d : Nat) : ∀ (f j : Nat), j + d = l.length → d < f →
    depotref11_Put.l0 f l k v ((l.take j).filter (fun p => decide (p.f0 ≠ k))) (j : Int) = some (l.filter (fun p => decide (p.f0 ≠ k)) ++ [⟨k, v⟩]) := by
  induction d with
  | zero =>
    intro f j hj hf
    obtain ⟨f, rfl⟩ : ∃ g, f = g + 1 := ⟨f - 1, by omega⟩
    obtain rfl : j = l.length := by omega
    simp only [depotref11_Put.l0]
    rw [if_neg (by omega), List.take_length, if_pos (Nat.lt_of_le_of_lt (List.length_filter_le _ _) hl)]
  | succ d ih =>
    intro f j hj hf
    obtain ⟨f, rfl⟩ : ∃ g, f = g + 1 := ⟨f - 1, by omega⟩
    have hlt : j < l.length := by omega
    simp only [depotref11_Put.l0]
    rw [if_pos (by omega), if_pos (by omega), rdP hlt, wrap_up hlt (by omega)]
    have hs := take_succ_snoc hlt
    by_cases he : (l[j]).f0.toList = k.toList
    · rw [if_pos he]
      have := ih f (j + 1) (by omega) (by omega)
      rw [hs, List.filter_append, List.filter_cons_of_neg (by simp [toList_inj he]), List.filter_nil, List.append_nil] at this
      exact this
    · have hne : (l[j]).f0 ≠ k := fun e => he (by rw [e])
      rw [if_neg he, if_pos (Nat.lt_of_le_of_lt (List.length_filter_le _ _) (by rw [List.length_take]; omega))]
      have := ih f (j + 1) (by omega) (by omega)
      rw [hs, List.filter_append, List.filter_cons_of_pos (by simpa using hne), List.filter_nil] at this
      exact this
theorem ref_put (l : List Pr) (k : ByteArray) (v : Int) (hl : l.length < 5864062014805) : depotref11_Put.f (l.length + 1) l k v = some (l.filter (fun p => decide (p.f0 ≠ k)) ++ [⟨k, v⟩]) := by
  have := put_loop l k v hl l.length (l.length + 1) 0 (by omega) (by omega)
  simpa [depotref11_Put.f] using this
theorem cut_loop (l : List Pr) (k : ByteArray) (hl : l.length < 5864062014805) (d : Nat) : ∀ (f j : Nat), j + d = l.length → d < f →
    depotref11_Cut.l0 f l k ((l.take j).filter (fun p => decide (p.f0 ≠ k))) (j : Int) = some (l.filter (fun p => decide (p.f0 ≠ k))) := by
  induction d with
  | zero =>
    intro f j hj hf
    obtain ⟨f, rfl⟩ : ∃ g, f = g + 1 := ⟨f - 1, by omega⟩
    obtain rfl : j = l.length := by omega
    simp only [depotref11_Cut.l0]
    rw [if_neg (by omega), List.take_length]
  | succ d ih =>
    intro f j hj hf
    obtain ⟨f, rfl⟩ : ∃ g, f = g + 1 := ⟨f - 1, by omega⟩
    have hlt : j < l.length := by omega
    simp only [depotref11_Cut.l0]
    rw [if_pos (by omega), if_pos (by omega), rdP hlt, wrap_up hlt (by omega)]
    have hs := take_succ_snoc hlt
    by_cases he : (l[j]).f0.toList = k.toList
    · rw [if_pos he]
      have := ih f (j + 1) (by omega) (by omega)
      rw [hs, List.filter_append, List.filter_cons_of_neg (by simp [toList_inj he]), List.filter_nil, List.append_nil] at this
      exact this
    · have hne : (l[j]).f0 ≠ k := fun e => he (by rw [e])
      rw [if_neg he, if_pos (Nat.lt_of_le_of_lt (List.length_filter_le _ _) (by rw [List.length_take]; omega))]
      have := ih f (j + 1) (by omega) (by omega)
      rw [hs, List.filter_append, List.filter_cons_of_pos (by simpa using hne), List.filter_nil] at this
      exact this
theorem ref_cut (l : List Pr) (k : ByteArray) (hl : l.length < 5864062014805) : depotref11_Cut.f (l.length + 1) l k = some (l.filter (fun p => decide (p.f0 ≠ k))) := by
  have := cut_loop l k hl l.length (l.length + 1) 0 (by omega) (by omega)
  simpa [depotref11_Cut.f] using this
theorem find_loop (l : List Pr) (k : ByteArray) (hl : l.length ≤ 140737488355328) (d : Nat) : ∀ (f j : Nat), j + d = l.length → d < f → (∀ p ∈ l.take j, p.f0 ≠ k) →
    ∃ r : Int, depotref11_Find.l0 f l k (j : Int) = some r ∧ ((∃ i : Nat, ∃ p, r = (i : Int) ∧ l[i]? = some p ∧ p.f0 = k) ∨ (r = -1 ∧ ∀ p ∈ l, p.f0 ≠ k)) := by
  induction d with
  | zero =>
    intro f j hj hf hall
    obtain ⟨f, rfl⟩ : ∃ g, f = g + 1 := ⟨f - 1, by omega⟩
    obtain rfl : j = l.length := by omega
    refine ⟨-1, ?_, .inr ⟨rfl, by simpa using hall⟩⟩
    simp only [depotref11_Find.l0]
    rw [if_neg (by omega)]
  | succ d ih =>
    intro f j hj hf hall
    obtain ⟨f, rfl⟩ : ∃ g, f = g + 1 := ⟨f - 1, by omega⟩
    have hlt : j < l.length := by omega
    simp only [depotref11_Find.l0]
    rw [if_pos (by omega), if_pos (by omega), rdP hlt, wrap_up hlt (by omega)]
    by_cases he : (l[j]).f0.toList = k.toList
    · rw [if_pos he]
      exact ⟨_, rfl, .inl ⟨j, l[j], rfl, List.getElem?_eq_getElem hlt, toList_inj he⟩⟩
    · rw [if_neg he]
      refine ih f (j + 1) (by omega) (by omega) (fun p hp => ?_)
      rw [take_succ_snoc hlt, List.mem_append, List.mem_singleton] at hp
      rcases hp with hp | rfl
      · exact hall p hp
      · exact fun e => he (by rw [e])
theorem ref_find (l : List Pr) (k : ByteArray) (hl : l.length ≤ 140737488355328) :
    ∃ r : Int, depotref11_Find.f (l.length + 1) l k = some r ∧ ((∃ i : Nat, ∃ p, r = (i : Int) ∧ l[i]? = some p ∧ p.f0 = k) ∨ (r = -1 ∧ ∀ p ∈ l, p.f0 ≠ k)) :=
  find_loop l k hl l.length (l.length + 1) 0 (by omega) (by omega) (by simp)
theorem rank_loop (l : List Pr) (k : ByteArray) (hl : l.length ≤ 140737488355328) (d : Nat) : ∀ (f j : Nat), j + d = l.length → d < f →
    depotref11_Rank.l0 f l k (((l.take j).countP (fun p => slt p.f0 k) : Nat) : Int) (j : Int) = some ((l.countP (fun p => slt p.f0 k) : Nat) : Int) := by
  induction d with
  | zero =>
    intro f j hj hf
    obtain ⟨f, rfl⟩ : ∃ g, f = g + 1 := ⟨f - 1, by omega⟩
    obtain rfl : j = l.length := by omega
    simp only [depotref11_Rank.l0]
    rw [if_neg (by omega), List.take_length]
  | succ d ih =>
    intro f j hj hf
    obtain ⟨f, rfl⟩ : ∃ g, f = g + 1 := ⟨f - 1, by omega⟩
    have hlt : j < l.length := by omega
    have hc : (l.take j).countP (fun p => slt p.f0 k) ≤ j := Nat.le_trans List.countP_le_length (by rw [List.length_take]; omega)
    simp only [depotref11_Rank.l0]
    rw [if_pos (by omega), if_pos (by omega), rdP hlt, wrap_up hlt (by omega)]
    have := ih f (j + 1) (by omega) (by omega)
    rw [take_succ_snoc hlt, List.countP_append] at this
    by_cases he : Op.bytesLess ((l[j]).f0.toList) k.toList = true
    · rw [if_pos he, wrap_up (n := l.length) (by omega) (by omega)]
      rw [List.countP_cons_of_pos (by exact he), List.countP_nil] at this
      exact this
    · rw [if_neg he]
      rw [List.countP_cons_of_neg (by exact he), List.countP_nil] at this
      exact this
theorem ref_rank (l : List Pr) (k : ByteArray) (hl : l.length ≤ 140737488355328) (f : Nat) (hf : l.length < f) : depotref11_Rank.f f l k = some ((l.countP (fun p => slt p.f0 k) : Nat) : Int) := by
  have := rank_loop l k hl l.length f 0 (by omega) hf
  simpa [depotref11_Rank.f] using this
theorem rank_ref {m : List (ByteArray × Int)} {l : List Pr} (hp : (m.map ofP).Perm l) (k : ByteArray) : l.countP (fun p => slt p.f0 k) = rank slt m k := by
  rw [← hp.countP_eq, List.countP_map]
  rfl
/-- The rows that are still to come, laid over what has been laid. -/
theorem sorted_loop (m : List (ByteArray × Int)) (hs : Srt slt m) (l : List Pr) (hp : (m.map ofP).Perm l) (hl : l.length ≤ 11728124029610) (d : Nat) : ∀ (f j : Nat) (out : List Pr), j + d = l.length → l.length + d < f → out.length = l.length →
    (∀ p ∈ l.take j, out[rank slt m p.f0]? = some p) → depotref11_Sorted.l0 f l out (j : Int) = some (m.map ofP) := by
  have hlen : m.length = l.length := by have := hp.length_eq; simpa using this
  induction d with
  | zero =>
    intro f j out hj hf ho hall
    obtain ⟨f, rfl⟩ : ∃ g, f = g + 1 := ⟨f - 1, by omega⟩
    obtain rfl : j = l.length := by omega
    simp only [depotref11_Sorted.l0]
    rw [if_neg (by omega)]
    rw [List.take_length] at hall
    congr 1
    apply List.ext_getElem?
    intro i
    by_cases hi : i < m.length
    · have hq : m[i]? = some m[i] := List.getElem?_eq_getElem hi
      have hmem : ofP m[i] ∈ l := hp.mem_iff.1 (List.mem_map_of_mem (List.getElem_mem hi))
      have h1 := hall _ hmem
      have hr : rank slt m (ofP m[i]).f0 = i := rank_at slt_ord hs i _ hq
      rw [hr] at h1
      rw [h1, List.getElem?_map, hq]
      rfl
    · rw [List.getElem?_eq_none (by omega), List.getElem?_eq_none (by rw [List.length_map]; omega)]
  | succ d ih =>
    intro f j out hj hf ho hall
    obtain ⟨f, rfl⟩ : ∃ g, f = g + 1 := ⟨f - 1, by omega⟩
    have hlt : j < l.length := by omega
    have hmem : l[j] ∈ m.map ofP := hp.mem_iff.2 (List.getElem_mem hlt)
    obtain ⟨p, hpm, hpe⟩ := List.mem_map.1 hmem
    have hrl : rank slt m p.1 < m.length := by
      obtain ⟨i, hi⟩ := List.mem_iff_getElem?.1 hpm
      rw [rank_at slt_ord hs i p hi]
      exact (List.getElem?_eq_some_iff.1 hi).1
    have hf0 : (l[j]).f0 = p.1 := by rw [← hpe]; rfl
    simp only [depotref11_Sorted.l0]
    rw [if_pos (by omega), if_pos (by omega), rdP hlt, ref_rank l _ (by omega) f (by omega), rank_ref hp]
    simp only [Option.bind_some]
    rw [hf0, if_pos (by omega), if_pos (by omega), wrap_up hlt (by omega), Int.toNat_natCast]
    refine ih f (j + 1) _ (by omega) (by omega) (by rw [List.length_set]; exact ho) (fun q hq => ?_)
    rw [take_succ_snoc hlt, List.mem_append, List.mem_singleton] at hq
    rw [List.getElem?_set]
    by_cases he : rank slt m p.1 = rank slt m q.f0
    · rw [if_pos he, if_pos (by omega)]
      congr 1
      -- of one rank: of one key, so the same row
      have hqm : toP q ∈ m := by
        have : q ∈ l := by
          rcases hq with hq | rfl
          · exact List.mem_of_mem_take hq
          · exact List.getElem_mem hlt
        obtain ⟨z, hz, rfl⟩ := List.mem_map.1 (hp.mem_iff.2 this)
        exact hz
      obtain ⟨i, hi⟩ := List.mem_iff_getElem?.1 hqm
      obtain ⟨i2, hi2⟩ := List.mem_iff_getElem?.1 hpm
      have h1 := rank_at slt_ord hs i _ hi
      have h2 := rank_at slt_ord hs i2 _ hi2
      have h3 : i = i2 := by rw [← h1, ← h2]; exact he.symm
      rw [h3, hi2] at hi
      have h4 := Option.some.inj hi
      have hf1 : (l[j]).f1 = p.2 := by rw [← hpe]; rfl
      rw [hf1, h4]
      rfl
    · rw [if_neg he]
      rcases hq with hq | rfl
      · exact hall q hq
      · exact absurd (by rw [hf0]) he
theorem ref_sorted (m : List (ByteArray × Int)) (hs : Srt slt m) (l : List Pr) (hp : (m.map ofP).Perm l) (hl : l.length ≤ 11728124029610) : depotref11_Sorted.f (2 * l.length + 1) l = some (m.map ofP) := by
  unfold depotref11_Sorted.f
  rw [if_pos (by omega), Int.toNat_natCast, if_pos hl]
  exact sorted_loop m hs l hp hl l.length _ 0 _ (by omega) (by omega) (by simp) (by simp)
theorem texts_loop (keys : List ByteArray) (l : List Pr) (hl : keys.length = l.length) (hn : l.length ≤ 140737488355328) (b : Bool) (hb : b = true ↔ keys = l.map (·.f0)) (d : Nat) : ∀ (f j : Nat), j + d = l.length → d < f → (∀ i, i < j → keys[i]? = (l.map (·.f0))[i]?) →
    depotlaw11_texts.l0 f l keys (keys.length : Int) (j : Int) = some b := by
  induction d with
  | zero =>
    intro f j hj hf hall
    obtain ⟨f, rfl⟩ : ∃ g, f = g + 1 := ⟨f - 1, by omega⟩
    obtain rfl : j = l.length := by omega
    simp only [depotlaw11_texts.l0]
    rw [if_neg (by omega)]
    rw [hb.2]
    apply List.ext_getElem?
    intro i
    by_cases hi : i < l.length
    · exact hall i hi
    · rw [List.getElem?_eq_none (by omega), List.getElem?_eq_none (by rw [List.length_map]; omega)]
  | succ d ih =>
    intro f j hj hf hall
    obtain ⟨f, rfl⟩ : ∃ g, f = g + 1 := ⟨f - 1, by omega⟩
    have hlt : j < l.length := by omega
    have hlk : j < keys.length := by omega
    have hrk : rdOf ByteArray.empty keys (j : Int) = keys[j] := by simp [rdOf, hlk]
    simp only [depotlaw11_texts.l0]
    rw [if_pos (by omega), if_pos (by omega), if_pos (by omega), if_pos (by omega), rdP hlt, hrk, wrap_up hlt (by omega)]
    by_cases he : (keys[j]).toList = ((l[j]).f0).toList
    · rw [if_pos he]
      refine ih f (j + 1) (by omega) (by omega) (fun i hi => ?_)
      by_cases hij : i = j
      · subst hij
        rw [List.getElem?_eq_getElem hlk, List.getElem?_map, List.getElem?_eq_getElem hlt, toList_inj he]
        rfl
      · exact hall i (by omega)
    · rw [if_neg he]
      cases b with
      | false => rfl
      | true =>
        have h := hb.1 rfl
        exfalso
        apply he
        have : keys[j]? = (l.map (·.f0))[j]? := by rw [h]
        rw [List.getElem?_eq_getElem hlk, List.getElem?_map, List.getElem?_eq_getElem hlt] at this
        rw [Option.some.inj this]
theorem ref_texts (keys : List ByteArray) (l : List Pr) (hn : l.length ≤ 140737488355328) (b : Bool) (hb : b = true ↔ keys = l.map (·.f0)) : depotlaw11_texts.f (l.length + 1) keys l = some b := by
  unfold depotlaw11_texts.f
  by_cases hl : keys.length = l.length
  · rw [if_pos (by omega)]
    exact texts_loop keys l hl hn b hb l.length _ 0 (by omega) (by omega) (fun i hi => by omega)
  · rw [if_neg (by omega)]
    cases b with
    | false => rfl
    | true => exact absurd (by rw [hb.1 rfl, List.length_map]) hl
end Go.Proofs.Ytkpicjhhkdjejaa
