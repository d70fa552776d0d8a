import GoSem.Op.String
import Derived.WalkKit
/-! A table as a list of pairs, rising by the keys: what is put, cut, asked; no program in sight. -/
set_option linter.unusedVariables false
namespace Go.Proofs.Ytkpicjhhkdjejaa.Tb
/-- A strict total order, told by a Bool. -/
structure Ord {α : Type} (lt : α → α → Bool) : Prop where
  irr : ∀ a, lt a a = false
  tr : ∀ a b c, lt a b = true → lt b c = true → lt a c = true
  tot : ∀ a b, lt a b = false → lt b a = false → a = b
section
variable {α β : Type} {lt : α → α → Bool}
theorem Ord.asym (o : Ord lt) {a b : α} (h : lt a b = true) : lt b a = false := by
  cases h2 : lt b a with
  | false => rfl
  | true => have := o.tr a b a h h2; rw [o.irr] at this; cases this
def Srt (lt : α → α → Bool) (m : List (α × β)) : Prop := m.Pairwise (fun p q => lt p.1 q.1 = true)
def rank (lt : α → α → Bool) (m : List (α × β)) (k : α) : Nat := m.countP (fun p => lt p.1 k)
def has (m : List (α × β)) (k : α) : Prop := ∃ p ∈ m, p.1 = k
/-- The list with v under k. -/
def put (lt : α → α → Bool) (m : List (α × β)) (k : α) (v : β) : List (α × β) := m.filter (fun p => lt p.1 k) ++ (k, v) :: m.filter (fun p => lt k p.1)
/-- The list without k. -/
def cut (lt : α → α → Bool) (m : List (α × β)) (k : α) : List (α × β) := m.filter (fun p => lt p.1 k) ++ m.filter (fun p => lt k p.1)
theorem filter_all_false {γ : Type} (p : γ → Bool) (l : List γ) (h : ∀ x ∈ l, p x = false) : l.filter p = [] := List.filter_eq_nil_iff.2 (fun x hx => by rw [h x hx]; simp)
theorem filter_all_true {γ : Type} (p : γ → Bool) (l : List γ) (h : ∀ x ∈ l, p x = true) : l.filter p = l := List.filter_eq_self.2 h
theorem fa_pos {p : α × β} {m : List (α × β)} {k : α} (h : lt p.1 k = true) : (p :: m).filter (fun p => lt p.1 k) = p :: m.filter (fun p => lt p.1 k) := List.filter_cons_of_pos (p := fun p : α × β => lt p.1 k) h
theorem fa_neg {p : α × β} {m : List (α × β)} {k : α} (h : ¬ lt p.1 k = true) : (p :: m).filter (fun p => lt p.1 k) = m.filter (fun p => lt p.1 k) := List.filter_cons_of_neg (p := fun p : α × β => lt p.1 k) h
theorem fb_pos {p : α × β} {m : List (α × β)} {k : α} (h : lt k p.1 = true) : (p :: m).filter (fun p => lt k p.1) = p :: m.filter (fun p => lt k p.1) := List.filter_cons_of_pos (p := fun p : α × β => lt k p.1) h
theorem fb_neg {p : α × β} {m : List (α × β)} {k : α} (h : ¬ lt k p.1 = true) : (p :: m).filter (fun p => lt k p.1) = m.filter (fun p => lt k p.1) := List.filter_cons_of_neg (p := fun p : α × β => lt k p.1) h
theorem ca_pos {p : α × β} {m : List (α × β)} {k : α} (h : lt p.1 k = true) : (p :: m).countP (fun p => lt p.1 k) = m.countP (fun p => lt p.1 k) + 1 := List.countP_cons_of_pos (p := fun p : α × β => lt p.1 k) h
theorem ca_neg {p : α × β} {m : List (α × β)} {k : α} (h : ¬ lt p.1 k = true) : (p :: m).countP (fun p => lt p.1 k) = m.countP (fun p => lt p.1 k) := List.countP_cons_of_neg (p := fun p : α × β => lt p.1 k) h
/-- What lies ahead of k is the first rank, what lies behind it the rest. -/
theorem ahead (o : Ord lt) (k : α) : ∀ (m : List (α × β)), Srt lt m → m.filter (fun p => lt p.1 k) = m.take (rank lt m k)
  | [], _ => by simp
  | p :: m, h => by
    have h' := List.pairwise_cons.1 h
    by_cases hp : lt p.1 k = true
    · rw [fa_pos hp, rank, ca_pos hp, List.take_succ_cons, ahead o k m h'.2]; rfl
    · have hall : ∀ q ∈ m, lt q.1 k = false := fun q hq => by
        cases hx : lt q.1 k with
        | false => rfl
        | true => exact absurd (o.tr _ _ _ (h'.1 q hq) hx) hp
      rw [fa_neg hp, rank, ca_neg hp, filter_all_false _ _ hall, List.countP_eq_zero.2 (fun q hq => by rw [hall q hq]; simp)]
      rfl
theorem behind (o : Ord lt) (k : α) : ∀ (m : List (α × β)), Srt lt m → (has m k → ∃ v, m[rank lt m k]? = some (k, v) ∧ m.filter (fun p => lt k p.1) = m.drop (rank lt m k + 1)) ∧ (¬ has m k → m.filter (fun p => lt k p.1) = m.drop (rank lt m k) ∧ ∀ p, m[rank lt m k]? = some p → p.1 ≠ k)
  | [], _ => ⟨fun ⟨p, hp, _⟩ => (by simp at hp), fun _ => ⟨by simp, fun p hp => by simp at hp⟩⟩
  | p :: m, h => by
    have h' := List.pairwise_cons.1 h
    have ih := behind o k m h'.2
    by_cases hp : lt p.1 k = true
    · have hne : p.1 ≠ k := fun e => by rw [e, o.irr] at hp; cases hp
      have hr : rank lt (p :: m) k = rank lt m k + 1 := by rw [rank, ca_pos hp]; rfl
      have hf : (p :: m).filter (fun q => lt k q.1) = m.filter (fun q => lt k q.1) := fb_neg (by rw [o.asym hp]; simp)
      have hh : has (p :: m) k ↔ has m k := ⟨fun ⟨q, hq, e⟩ => by
        rcases List.mem_cons.1 hq with rfl | hq
        · exact absurd e hne
        · exact ⟨q, hq, e⟩, fun ⟨q, hq, e⟩ => ⟨q, List.mem_cons_of_mem _ hq, e⟩⟩
      rw [hr, hf, hh]
      simpa using ih
    · have hp' : lt p.1 k = false := by simpa using hp
      have hge : ∀ q ∈ m, lt q.1 k = false := fun q hq => by
        cases hx : lt q.1 k with
        | false => rfl
        | true => exact absurd (o.tr _ _ _ (h'.1 q hq) hx) hp
      have hr : rank lt (p :: m) k = 0 := by
        rw [rank, ca_neg hp, List.countP_eq_zero.2 (fun q hq => by rw [hge q hq]; simp)]
      rw [hr]
      by_cases hk : p.1 = k
      · refine ⟨fun _ => ⟨p.2, by rw [← hk]; rfl, ?_⟩, fun hn => absurd ⟨p, List.mem_cons_self, hk⟩ hn⟩
        rw [fb_neg (by rw [hk, o.irr]; simp), filter_all_true _ _ (fun q hq => by rw [← hk]; exact h'.1 q hq)]
        rfl
      · have hlt : lt k p.1 = true := by
          cases hx : lt k p.1 with
          | true => rfl
          | false => exact absurd (o.tot _ _ hp' hx) hk
        have hno : ¬ has (p :: m) k := fun ⟨q, hq, e⟩ => by
          rcases List.mem_cons.1 hq with rfl | hq
          · exact hk e
          · have := o.tr _ _ _ hlt (h'.1 q hq)
            rw [e, o.irr] at this
            cases this
        refine ⟨fun hh => absurd hh hno, fun _ => ⟨?_, fun q hq => by simp at hq; rw [← hq]; exact hk⟩⟩
        rw [fb_pos hlt, filter_all_true _ _ (fun q hq => o.tr _ _ _ hlt (h'.1 q hq))]
        rfl
theorem rank_le (m : List (α × β)) (k : α) : rank lt m k ≤ m.length := List.countP_le_length
theorem put_there (o : Ord lt) {m : List (α × β)} (h : Srt lt m) {k : α} (hk : has m k) (v : β) : put lt m k v = m.set (rank lt m k) (k, v) ∧ rank lt m k < m.length := by
  obtain ⟨u, h1, h2⟩ := (behind o k m h).1 hk
  have hlt := (List.getElem?_eq_some_iff.1 h1).1
  refine ⟨?_, hlt⟩
  rw [put, ahead o k m h, h2, List.set_eq_take_append_cons_drop, if_pos hlt]
theorem put_new (o : Ord lt) {m : List (α × β)} (h : Srt lt m) {k : α} (hk : ¬ has m k) (v : β) : put lt m k v = m.take (rank lt m k) ++ (k, v) :: m.drop (rank lt m k) := by
  rw [put, ahead o k m h, ((behind o k m h).2 hk).1]
theorem cut_there (o : Ord lt) {m : List (α × β)} (h : Srt lt m) {k : α} (hk : has m k) : cut lt m k = m.take (rank lt m k) ++ m.drop (rank lt m k + 1) ∧ rank lt m k < m.length := by
  obtain ⟨u, h1, h2⟩ := (behind o k m h).1 hk
  exact ⟨by rw [cut, ahead o k m h, h2], (List.getElem?_eq_some_iff.1 h1).1⟩
theorem cut_gone (o : Ord lt) {m : List (α × β)} (h : Srt lt m) {k : α} (hk : ¬ has m k) : cut lt m k = m := by
  rw [cut, ahead o k m h, ((behind o k m h).2 hk).1, List.take_append_drop]
theorem put_srt (o : Ord lt) {m : List (α × β)} (h : Srt lt m) (k : α) (v : β) : Srt lt (put lt m k v) := by
  refine List.pairwise_append.2 ⟨h.filter _, List.pairwise_cons.2 ⟨fun q hq => (List.mem_filter.1 hq).2, h.filter _⟩, fun p hp q hq => ?_⟩
  have h1 := (List.mem_filter.1 hp).2
  rcases List.mem_cons.1 hq with rfl | hq
  · exact h1
  · exact o.tr _ _ _ h1 (List.mem_filter.1 hq).2
theorem cut_srt (o : Ord lt) {m : List (α × β)} (h : Srt lt m) (k : α) : Srt lt (cut lt m k) := by
  refine List.pairwise_append.2 ⟨h.filter _, h.filter _, fun p hp q hq => ?_⟩
  exact o.tr _ _ _ (List.mem_filter.1 hp).2 (List.mem_filter.1 hq).2
/-- What isn't k: ahead of it, or behind it. -/
theorem cut_perm [DecidableEq α] (o : Ord lt) (k : α) : ∀ (m : List (α × β)), (cut lt m k).Perm (m.filter (fun p => decide (p.1 ≠ k)))
  | [] => by simp [cut]
  | p :: m => by
    have ih := cut_perm o k m
    unfold cut at ih ⊢
    by_cases h1 : lt p.1 k = true
    · have hne : p.1 ≠ k := fun e => by rw [e, o.irr] at h1; cases h1
      rw [fa_pos h1, fb_neg (by rw [o.asym h1]; simp), List.filter_cons_of_pos (p := fun q : α × β => decide (q.1 ≠ k)) (by simpa using hne)]
      exact ih.cons p
    · rw [fa_neg h1]
      by_cases h2 : lt k p.1 = true
      · have hne : p.1 ≠ k := fun e => by rw [e, o.irr] at h2; cases h2
        rw [fb_pos h2, List.filter_cons_of_pos (p := fun q : α × β => decide (q.1 ≠ k)) (by simpa using hne)]
        exact List.perm_middle.trans (ih.cons p)
      · have he : p.1 = k := o.tot _ _ (by simpa using h1) (by simpa using h2)
        rw [fb_neg h2, List.filter_cons_of_neg (p := fun q : α × β => decide (q.1 ≠ k)) (by simp [he])]
        exact ih
theorem put_perm [DecidableEq α] (o : Ord lt) (k : α) (v : β) (m : List (α × β)) : (put lt m k v).Perm (m.filter (fun p => decide (p.1 ≠ k)) ++ [(k, v)]) := by
  have h := cut_perm o k m
  unfold cut at h
  unfold put
  exact List.perm_middle.trans ((h.cons (k, v)).trans (List.perm_append_singleton (k, v) _).symm)
theorem has_put (o : Ord lt) (m : List (α × β)) (k : α) (v : β) (x : α) : has (put lt m k v) x ↔ x = k ∨ has m x := by
  unfold has put
  constructor
  · rintro ⟨p, hp, rfl⟩
    rcases List.mem_append.1 hp with hp | hp
    · exact .inr ⟨p, (List.mem_filter.1 hp).1, rfl⟩
    · rcases List.mem_cons.1 hp with rfl | hp
      · exact .inl rfl
      · exact .inr ⟨p, (List.mem_filter.1 hp).1, rfl⟩
  · rintro (rfl | ⟨p, hp, rfl⟩)
    · exact ⟨(x, v), by simp, rfl⟩
    · by_cases h1 : lt p.1 k = true
      · exact ⟨p, by simp [hp, h1], rfl⟩
      · by_cases h2 : lt k p.1 = true
        · exact ⟨p, by simp [hp, h2], rfl⟩
        · have := o.tot _ _ (by simpa using h1) (by simpa using h2)
          exact ⟨(k, v), by simp, this.symm⟩
theorem has_cut (o : Ord lt) (m : List (α × β)) (k : α) (x : α) : has (cut lt m k) x ↔ x ≠ k ∧ has m x := by
  unfold has cut
  constructor
  · rintro ⟨p, hp, rfl⟩
    rcases List.mem_append.1 hp with hp | hp
    · have h := List.mem_filter.1 hp
      exact ⟨fun e => (by have := h.2; rw [e, o.irr] at this; cases this), p, h.1, rfl⟩
    · have h := List.mem_filter.1 hp
      exact ⟨fun e => (by have := h.2; rw [e, o.irr] at this; cases this), p, h.1, rfl⟩
  · rintro ⟨hne, p, hp, rfl⟩
    by_cases h1 : lt p.1 k = true
    · exact ⟨p, by simp [hp, h1], rfl⟩
    · by_cases h2 : lt k p.1 = true
      · exact ⟨p, by simp [hp, h2], rfl⟩
      · exact absurd (o.tot _ _ (by simpa using h1) (by simpa using h2)) hne
theorem mem_put (o : Ord lt) (m : List (α × β)) (k : α) (v : β) (x : α) (y : β) : (x, y) ∈ put lt m k v ↔ (x = k ∧ y = v) ∨ (x ≠ k ∧ (x, y) ∈ m) := by
  unfold put
  rw [List.mem_append, List.mem_cons, List.mem_filter, List.mem_filter]
  constructor
  · rintro (⟨h1, h2⟩ | h | ⟨h1, h2⟩)
    · exact .inr ⟨fun e => (by rw [e, o.irr] at h2; cases h2), h1⟩
    · exact .inl (by simpa using h)
    · exact .inr ⟨fun e => (by rw [e, o.irr] at h2; cases h2), h1⟩
  · rintro (⟨rfl, rfl⟩ | ⟨hne, h⟩)
    · exact .inr (.inl rfl)
    · by_cases h1 : lt x k = true
      · exact .inl ⟨h, h1⟩
      · by_cases h2 : lt k x = true
        · exact .inr (.inr ⟨h, h2⟩)
        · exact absurd (o.tot _ _ (by simpa using h1) (by simpa using h2)) hne
theorem mem_cut (o : Ord lt) (m : List (α × β)) (k : α) (x : α) (y : β) : (x, y) ∈ cut lt m k ↔ x ≠ k ∧ (x, y) ∈ m := by
  unfold cut
  rw [List.mem_append, List.mem_filter, List.mem_filter]
  constructor
  · rintro (⟨h1, h2⟩ | ⟨h1, h2⟩)
    · exact ⟨fun e => (by rw [e, o.irr] at h2; cases h2), h1⟩
    · exact ⟨fun e => (by rw [e, o.irr] at h2; cases h2), h1⟩
  · rintro ⟨hne, h⟩
    by_cases h1 : lt x k = true
    · exact .inl ⟨h, h1⟩
    · by_cases h2 : lt k x = true
      · exact .inr ⟨h, h2⟩
      · exact absurd (o.tot _ _ (by simpa using h1) (by simpa using h2)) hne
theorem len_cut (o : Ord lt) : ∀ (m : List (α × β)) (k : α), (cut lt m k).length ≤ m.length
  | [], k => by simp [cut]
  | p :: m, k => by
    have ih := len_cut o m k
    unfold cut at ih ⊢
    by_cases h1 : lt p.1 k = true
    · rw [fa_pos h1, fb_neg (by rw [o.asym h1]; simp)]
      simp only [List.length_append, List.length_cons] at *
      omega
    · rw [fa_neg h1]
      by_cases h2 : lt k p.1 = true
      · rw [fb_pos h2]
        simp only [List.length_append, List.length_cons] at *
        omega
      · rw [fb_neg h2]
        simp only [List.length_append, List.length_cons] at *
        omega
theorem len_put (o : Ord lt) (m : List (α × β)) (k : α) (v : β) : (put lt m k v).length ≤ m.length + 1 := by
  have := len_cut o m k
  unfold cut at this
  unfold put
  simp only [List.length_append, List.length_cons] at *
  omega
theorem has_mem {m : List (α × β)} {k : α} : has m k ↔ ∃ v, (k, v) ∈ m := ⟨fun ⟨p, hp, e⟩ => ⟨p.2, by rw [← e]; exact hp⟩, fun ⟨v, hv⟩ => ⟨(k, v), hv, rfl⟩⟩
/-- The places ahead of the rank are less, the others aren't. -/
theorem rank_lt (o : Ord lt) {m : List (α × β)} (h : Srt lt m) (k : α) (j : Nat) (p : α × β) (hp : m[j]? = some p) : (lt p.1 k = true ↔ j < rank lt m k) := by
  have ha := ahead o k m h
  have hl := (List.getElem?_eq_some_iff.1 hp).1
  constructor
  · intro hx
    refine Nat.lt_of_not_le fun hge => ?_
    have hmem : p ∈ m.drop (rank lt m k) := List.mem_iff_getElem?.2 ⟨j - rank lt m k, by rw [List.getElem?_drop, Nat.add_sub_cancel' hge]; exact hp⟩
    have hc : (m.drop (rank lt m k)).countP (fun p => lt p.1 k) = 0 := by
      have h1 : (m.take (rank lt m k)).countP (fun p => lt p.1 k) = rank lt m k := by
        rw [← ha, List.countP_filter, rank]
        congr 1
        funext x
        simp
      have h2 := List.countP_append (p := fun p : α × β => lt p.1 k) (l₁ := m.take (rank lt m k)) (l₂ := m.drop (rank lt m k))
      rw [List.take_append_drop, h1] at h2
      unfold rank at h2 ⊢
      omega
    exact (List.countP_eq_zero.1 hc) p hmem hx
  · intro hj
    have hmem : p ∈ m.take (rank lt m k) := List.mem_iff_getElem?.2 ⟨j, by rw [List.getElem?_take, if_pos hj]; exact hp⟩
    rw [← ha] at hmem
    exact (List.mem_filter.1 hmem).2
theorem mem_unique (o : Ord lt) {m : List (α × β)} (h : Srt lt m) {p q : α × β} (hp : p ∈ m) (hq : q ∈ m) (e : p.1 = q.1) : p = q := by
  obtain ⟨i, hi⟩ := List.mem_iff_getElem?.1 hp
  obtain ⟨j, hj⟩ := List.mem_iff_getElem?.1 hq
  have hil := (List.getElem?_eq_some_iff.1 hi)
  have hjl := (List.getElem?_eq_some_iff.1 hj)
  rcases Nat.lt_trichotomy i j with hij | hij | hij
  · have := List.pairwise_iff_getElem.1 h i j hil.1 hjl.1 hij
    rw [hil.2, hjl.2, e, o.irr] at this
    cases this
  · subst hij
    rw [hi] at hj
    exact Option.some.inj hj
  · have := List.pairwise_iff_getElem.1 h j i hjl.1 hil.1 hij
    rw [hil.2, hjl.2, e, o.irr] at this
    cases this
/-- A key stands at the place that its rank is. -/
theorem rank_at (o : Ord lt) {m : List (α × β)} (h : Srt lt m) (j : Nat) (p : α × β) (hp : m[j]? = some p) : rank lt m p.1 = j := by
  have h1 := rank_lt o h p.1 j p hp
  rw [o.irr] at h1
  have hge : rank lt m p.1 ≤ j := Nat.le_of_not_lt fun hl => by have := h1.2 hl; cases this
  refine Nat.le_antisymm hge (Nat.le_of_not_lt fun hl => ?_)
  have hjl := (List.getElem?_eq_some_iff.1 hp)
  have hq : m[rank lt m p.1]? = some (m[rank lt m p.1]'(Nat.lt_trans hl hjl.1)) := List.getElem?_eq_getElem (Nat.lt_trans hl hjl.1)
  have h2 := rank_lt o h p.1 _ _ hq
  have h3 := List.pairwise_iff_getElem.1 h (rank lt m p.1) j (Nat.lt_trans hl hjl.1) hjl.1 hl
  rw [hjl.2] at h3
  have h4 := rank_lt o h p.1 _ _ hq
  exact absurd (h4.1 h3) (Nat.lt_irrefl _)
theorem perm_rank {m n : List (α × β)} (h : m.Perm n) (k : α) : rank lt m k = rank lt n k := h.countP_eq _
theorem perm_has {m n : List (α × β)} (h : m.Perm n) (k : α) : has m k ↔ has n k := ⟨fun ⟨p, hp, e⟩ => ⟨p, h.mem_iff.1 hp, e⟩, fun ⟨p, hp, e⟩ => ⟨p, h.mem_iff.2 hp, e⟩⟩
end
/-! The two orders. -/
def slt (a b : ByteArray) : Bool := Op.bytesLess a.toList b.toList
def ilt (a b : Int) : Bool := decide (a < b)
theorem ilt_ord : Ord ilt := ⟨fun a => by simp [ilt], fun a b c h1 h2 => by simp [ilt] at *; omega, fun a b h1 h2 => by simp [ilt] at *; omega⟩
theorem less_irr : ∀ x : List UInt8, Op.bytesLess x x = false
  | [] => rfl
  | a :: x => by simp [Op.bytesLess, less_irr x]
theorem less_tr : ∀ x y z : List UInt8, Op.bytesLess x y = true → Op.bytesLess y z = true → Op.bytesLess x z = true
  | _, [], _, h, _ => by cases ‹List UInt8› <;> simp [Op.bytesLess] at h
  | _, _ :: _, [], _, h => by simp [Op.bytesLess] at h
  | [], _ :: _, _ :: _, _, _ => by simp [Op.bytesLess]
  | a :: x, b :: y, c :: z, h1, h2 => by
    simp only [Op.bytesLess, Bool.or_eq_true, decide_eq_true_eq, Bool.and_eq_true, beq_iff_eq] at h1 h2 ⊢
    rcases h1 with h1 | ⟨rfl, h1⟩
    · rcases h2 with h2 | ⟨rfl, h2⟩
      · exact .inl (UInt8.lt_trans h1 h2)
      · exact .inl h1
    · rcases h2 with h2 | ⟨rfl, h2⟩
      · exact .inl h2
      · exact .inr ⟨rfl, less_tr x y z h1 h2⟩
theorem less_tot : ∀ x y : List UInt8, Op.bytesLess x y = false → Op.bytesLess y x = false → x = y
  | [], [], _, _ => rfl
  | [], _ :: _, h, _ => by simp [Op.bytesLess] at h
  | _ :: _, [], _, h => by simp [Op.bytesLess] at h
  | a :: x, b :: y, h1, h2 => by
    simp only [Op.bytesLess, Bool.or_eq_false_iff, decide_eq_false_iff_not, Bool.and_eq_false_iff, beq_eq_false_iff_ne] at h1 h2
    have hab : a = b := by
      apply UInt8.toNat_inj.1
      have := h1.1
      have := h2.1
      simp only [UInt8.lt_iff_toNat_lt] at *
      omega
    subst hab
    rw [less_tot x y (by simpa using h1.2) (by simpa using h2.2)]
theorem toList_inj {a b : ByteArray} (h : a.toList = b.toList) : a = b := by
  have ha : ∀ s : ByteArray, s.toList = s.data.toList := fun s => ByteArray.toList_eq s
  rw [ha, ha] at h
  cases a; cases b
  simp at h
  rw [h]
theorem slt_ord : Ord slt := ⟨fun a => less_irr _, fun a b c => less_tr _ _ _, fun a b h1 h2 => toList_inj (less_tot _ _ h1 h2)⟩
end Go.Proofs.Ytkpicjhhkdjejaa.Tb
