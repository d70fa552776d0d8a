import Derived.Test.YtnemeeidomceiaaPTreeEqualsx3
namespace Go.Proofs.Ytnemeeidomceiaa.PTreeEquals
open Go.RowKit Go.Proofs.YtnemeeidomceiaaW.PrintWords Go.Proofs.YtnemeeidomceiaaW.PrintLast Go.Proofs.YtnemeeidomceiaaW.PrintMore Go.Proofs.Ytnemeeidomceiaa
set_option linter.unusedSimpArgs false
set_option linter.unusedVariables false

theorem refEqual_le {k k' : Nat} (h : k ≤ k') (y0 : Int) (y1 : Bool) (y2 : ByteArray) (y3 : List S49) (y4 : Int) (y5 : Bool) (y6 : ByteArray) (y7 : List S49) : LeO (depotref06_Equal.f k y0 y1 y2 y3 y4 y5 y6 y7) (depotref06_Equal.f k' y0 y1 y2 y3 y4 y5 y6 y7) := by
  induction h with
  | refl => exact LeO.refl _
  | step _ ih => exact fun r hr => depotref06_Equal.mono _ _ _ _ _ _ _ _ _ r (ih r hr)
theorem refLoop_le {k k' : Nat} (h : k ≤ k') (x : Int) (y0 : Int) (y1 : Bool) (y2 : ByteArray) (y3 : List S49) (y4 : Int) (y5 : Bool) (y6 : ByteArray) (y7 : List S49) : LeO (depotref06_Equal.l0 k x y0 y1 y2 y3 y4 y5 y6 y7) (depotref06_Equal.l0 k' x y0 y1 y2 y3 y4 y5 y6 y7) := by
  induction h with
  | refl => exact LeO.refl _
  | step _ ih => exact fun r hr => (depotref06_Equal.mono_l _).2.2 _ _ _ _ _ _ _ _ _ r (ih r hr)

theorem refLoop (l l' : List S49) (hm : l.length * 72 ≤ 140737488355328) (hl : l.length = l'.length)
    (ih : ∀ x, x ∈ l → ∀ (a : Int) (b : Bool) (c : ByteArray) (a' : Int) (b' : Bool) (c' : ByteArray) (m : List S49), ∃ k, depotref06_Equal.f k a b c x.f4 a' b' c' m = some (eqB (a, b, c, x.f4) (a', b', c', m)))
    (a : Int) (b : Bool) (c : ByteArray) (a' : Int) (b' : Bool) (c' : ByteArray) (d i : Nat) (hd : l.length - i = d) (hi : i ≤ l.length) (ht : l.take i = l'.take i) :
    ∃ k, depotref06_Equal.l0 k (i : Int) a b c l a' b' c' l' = some (eqB l l') := by
  induction d generalizing i with
  | zero =>
    have : i = l.length := by omega
    refine ⟨1, ?_⟩
    unfold depotref06_Equal.l0
    rw [if_neg (by omega)]
    have he : l = l' := by
      subst this
      rw [List.take_of_length_le (Nat.le_refl _), List.take_of_length_le (by omega)] at ht
      exact ht
    rw [eqB_true he]
  | succ d ihd =>
    have hlt : i < l.length := by omega
    have hlt' : i < l'.length := by omega
    have s1 := take_snoc2 l i hlt
    have s2 := take_snoc2 l' i hlt'
    have hmem : rd_T49 l (i : Int) ∈ l := by simp [rd_T49, hlt]
    have hih := ih _ hmem
    have key : ∀ x y : S49, rd_T49 l (i : Int) = x → rd_T49 l' (i : Int) = y → ∃ k, depotref06_Equal.l0 k (i : Int) a b c l a' b' c' l' = some (eqB l l') := by
      intro x y hx hy
      by_cases hn : x.f0.toList = y.f0.toList
      · obtain ⟨k1, hk1⟩ := ih x (hx ▸ hmem) x.f1 x.f2 x.f3 y.f1 y.f2 y.f3 y.f4
        have hnn := text_eq hn
        by_cases he : x = y
        · have ht2 : l.take (i + 1) = l'.take (i + 1) := by rw [s1, s2, ht, hx, hy, he]
          obtain ⟨k2, hk2⟩ := ihd (i + 1) (by omega) (by omega) ht2
          refine ⟨max k1 k2 + 1, ?_⟩
          unfold depotref06_Equal.l0
          rw [if_pos (by omega), if_pos (by omega), if_pos (by omega), hx, hy, if_pos hn, refEqual_le (Nat.le_max_left k1 k2) _ _ _ _ _ _ _ _ _ hk1]
          have hw : wrap64 ((i : Int) + 1) = ((i + 1 : Nat) : Int) := by unfold wrap64; omega
          rw [Option.bind_some, eqB_true (by rw [he]), if_pos rfl, hw]
          exact refLoop_le (Nat.le_max_right k1 k2) _ _ _ _ _ _ _ _ _ _ hk2
        · refine ⟨k1 + 1, ?_⟩
          unfold depotref06_Equal.l0
          rw [if_pos (by omega), if_pos (by omega), if_pos (by omega), hx, hy, if_pos hn, hk1, Option.bind_some]
          have hne : ¬ (x.f1, x.f2, x.f3, x.f4) = (y.f1, y.f2, y.f3, y.f4) := fun h => he (by
            cases x; cases y
            simp only [Prod.mk.injEq] at h
            simp only at hnn
            simp [h, hnn])
          rw [eqB_false hne, if_neg (by simp), eqB_false (fun h => he (by rw [← hx, ← hy, h]))]
      · refine ⟨1, ?_⟩
        unfold depotref06_Equal.l0
        rw [if_pos (by omega), if_pos (by omega), if_pos (by omega), hx, hy, if_neg hn, eqB_false (fun h => hn (by rw [← hx, ← hy, h]))]
    exact key _ _ rfl rfl

theorem ref_equal (l : List S49) (hf : Fit l) : ∀ (a : Int) (b : Bool) (c : ByteArray) (a' : Int) (b' : Bool) (c' : ByteArray) (l' : List S49), ∃ k, depotref06_Equal.f k a b c l a' b' c' l' = some (eqB (a, b, c, l) (a', b', c', l')) := by
  induction hf with
  | @mk l h72 _ ih =>
  intro a b c a' b' c' l'
  by_cases h : a = a' ∧ b = b' ∧ c.toList = c'.toList
  · obtain ⟨rfl, rfl, h3⟩ := h
    obtain rfl := text_eq h3
    by_cases hl : l.length = l'.length
    · obtain ⟨k, hk⟩ := refLoop l l' h72 hl ih a b c a b c _ 0 rfl (Nat.zero_le _) rfl
      refine ⟨k + 1 + 1, ?_⟩
      unfold depotref06_Equal.f
      rw [if_pos rfl, if_neg (by simp), if_pos rfl]
      unfold depotref06_Equal.j0
      rw [if_neg (by simp [hl])]
      have := hk
      rw [Int.ofNat_zero] at this
      rw [this]
      congr 1
      unfold eqB
      simp
    · refine ⟨2, ?_⟩
      unfold depotref06_Equal.f
      rw [if_pos rfl, if_neg (by simp), if_pos rfl]
      unfold depotref06_Equal.j0
      rw [if_pos (by rw [bne_iff_ne]; omega), eqB_false (fun q => hl (by simp only [Prod.mk.injEq] at q; rw [q.2.2.2]))]
  · refine ⟨2, ?_⟩
    rw [eqB_false (fun q => h (by simp only [Prod.mk.injEq] at q; exact ⟨q.1, q.2.1, by rw [q.2.2.1]⟩))]
    unfold depotref06_Equal.f
    by_cases h1 : a = a'
    · rw [if_pos h1]
      by_cases h2 : b = b'
      · rw [if_neg (by simp [h2]), if_neg (fun h3 => h ⟨h1, h2, h3⟩)]
        unfold depotref06_Equal.j0
        rw [if_pos rfl]
      · rw [if_pos (by simpa using h2)]
        unfold depotref06_Equal.j0
        rw [if_pos rfl]
    · rw [if_neg h1]
      unfold depotref06_Equal.j0
      rw [if_pos rfl]

theorem law_true (a : Int) (b : Bool) (c : ByteArray) (l : List S49) (a' : Int) (b' : Bool) (c' : ByteArray) (l' : List S49) (hf : Fit l) :
    ∃ k, depotlaw06_TreeEquals.f k a b c l a' b' c' l' = some true := by
  obtain ⟨k1, hk1⟩ := ref_equal l hf a b c a' b' c' l'
  obtain ⟨k2, hk2⟩ := ref_equal l hf a b c a b c l
  refine ⟨max k1 k2 + 1, ?_⟩
  unfold depotlaw06_TreeEquals.f
  simp only [depotlaw06_leaf.f, Option.bind_some, tree_Equal.f]
  rw [eqB_false (by
    intro h
    simp only [Prod.mk.injEq] at h
    exact absurd h.2.2.1 (by decide)), if_neg (by simp), eqB_true rfl]
  unfold depotlaw06_TreeEquals.j0
  show (if (!true) = true then _ else _) = _
  rw [if_neg (by simp)]
  simp only [tree_Equal.f, tree_Copy.f, Option.bind_some, if_pos hf]
  rw [refEqual_le (Nat.le_max_left k1 k2) _ _ _ _ _ _ _ _ _ hk1, Option.bind_some, if_pos (by simp), eqB_true rfl, if_pos rfl, refEqual_le (Nat.le_max_right k1 k2) _ _ _ _ _ _ _ _ _ hk2, Option.bind_some, eqB_true rfl]
end Go.Proofs.Ytnemeeidomceiaa.PTreeEquals
