/- The fold of two texts' exclusive or is the exclusive or of their folds; a text that fits is folded into itself with noughts behind: for all texts a, b and numbers n the law answers true. -/
import Derived.Test.YtjbjdccnbjddjaaMixMath
namespace Go.Proofs.Ytjbjdccnbjddjaa.RadixMixes
open Go.RowKit Go.Proofs.YtjbjdccnbjddjaaW.PrintWords Go.Proofs.YtjbjdccnbjddjaaW.PrintLast Go.Proofs.YtjbjdccnbjddjaaW.PrintMore
set_option linter.unusedVariables false
set_option linter.unusedSimpArgs false

theorem fold_probe : radix_Fold.f (⟨#[1, 2, 4]⟩ : ByteArray) 2 = some (⟨#[5, 2]⟩, 0) := by kernel_rfl
theorem fold_in (b : ByteArray) (n : Int) (hb : b.size ≤ 140737488351232) (h1 : 1 ≤ n) (h2 : n ≤ 64) : radix_Fold.f b n = some (foldText b n, 0) := by
  unfold radix_Fold.f
  rw [if_pos hb, if_neg (by omega), if_neg (by omega)]
  rfl
theorem fold_out (b : ByteArray) (n : Int) (hb : b.size ≤ 140737488351232) (h : n < 1 ∨ 64 < n) : radix_Fold.f b n = some (⟨#[]⟩, 1) := by
  unfold radix_Fold.f
  rw [if_pos hb]
  by_cases h1 : n < 1
  · rw [if_pos h1]
  · rw [if_neg h1, if_pos (by omega)]
theorem mixed_f (a b : ByteArray) (ha : a.size ≤ 140737488351232) (hb : b.size ≤ 140737488351232) : depotlaw02_mixed.f a b = some (strOfNums (mixRow a b a.size)) := by
  unfold depotlaw02_mixed.f
  rw [if_pos ⟨ha, hb⟩]


theorem below_next {w w1 w2 : World} (h : Aside0 (Below w.heap.size w w1)) (k : Below w1.heap.size w1 w2) : Aside0 (Below w.heap.size w w2) := ⟨below_step h.out k⟩

set_option maxHeartbeats 1000000 in
set_option maxRecDepth 100000 in
theorem walk_out (a0 a1 : ByteArray) (a2 : Int) (w : World) (w0 : a0.size ≤ 140737488351232) (w1 : a1.size ≤ 140737488351232) (h1 : a2 < 1 ∨ 64 < a2) :
    Calls Try.prog 4 #[.string a0, .string a1, .int .i64 a2] w fun e w' => e = .returned (.bool true) ∧ Below w.heap.size w w' := by
  have HB := Aside0.mk (Below.refl w.heap.size w)
  have H1 := Aside0.mk h1
  have HM := fun (a b : ByteArray) (ha : Aside0 (a.size ≤ 140737488351232)) (hb : Aside0 (b.size ≤ 140737488351232)) => Aside0.mk (mixed_f a b ha.out hb.out)
  have HMS := fun (a b : ByteArray) (ha : Aside0 (a.size ≤ 140737488351232)) => (Aside0.mk (show (strOfNums (mixRow a b a.size)).size ≤ 140737488351232 by rw [strOfNums_size, mixRow_length]; exact ha.out))
  have HF := fun (a : ByteArray) (ha : Aside0 (a.size ≤ 140737488351232)) => Aside0.mk (fold_out a a2 ha.out H1.out)
  have hx1 : Aside0 ((a0.extract 0 a1.size).size ≤ 140737488351232) := ⟨by rw [ByteArray.size_extract]; omega⟩
  have hx2 : Aside0 ((a1.extract 0 (min a1.size a0.size)).size ≤ 140737488351232) := ⟨by rw [ByteArray.size_extract]; omega⟩
  have hx3 : Aside0 ((a1.extract 0 a0.size).size ≤ 140737488351232) := ⟨by rw [ByteArray.size_extract]; omega⟩
  have hx4 : Aside0 (a0.size ≤ 140737488351232) := ⟨w0⟩
  obtain h2 | h2 : (decide (a2 < 1) = true) ∨ (decide (a2 < 1) = false ∧ decide (64 < a2) = true) := by
    by_cases h : a2 < 1
    · exact .inl (decide_eq_true h)
    · exact .inr ⟨decide_eq_false h, decide_eq_true (by omega)⟩
  case' inr => obtain ⟨h2, h3⟩ := h2
  all_goals
    clear h1
    by_cases hc : a1.size < a0.size
    case' pos =>
      go_enter Try.func4, Try.ntmps4
      go_wp2_with fail
      ((with_reducible refine (radix_Fold.calls _ _ _ _ _ fold_probe).mono ?_); rintro e wa ⟨rfl, hb⟩)
      replace HB := below_next HB hb
      clear hb
      go_wp2_with fail
      generalize a0.extract 0 a1.size = a at hx1 ⊢
      generalize a1.extract 0 (min a1.size a0.size) = b at hx2 ⊢
      clear hx3 hx4
    case' neg =>
      go_enter Try.func4, Try.ntmps4
      go_wp2_with fail
      ((with_reducible refine (radix_Fold.calls _ _ _ _ _ fold_probe).mono ?_); rintro e wa ⟨rfl, hb⟩)
      replace HB := below_next HB hb
      clear hb
      go_wp2_with fail
      generalize a1.extract 0 a0.size = b at hx3 ⊢
      clear hx1 hx2
      have hx1 := hx4
      have hx2 := hx3
      clear hx3 hx4
      generalize a0 = a at hx1 ⊢
    all_goals
      ((with_reducible refine (radix_Fold.calls _ _ _ _ _ (HF a hx1).out).mono ?_); rintro e wb ⟨rfl, hb⟩)
      replace HB := below_next HB hb
      clear hb
      go_wp2_with fail
      ((with_reducible refine (radix_Fold.calls _ _ _ _ _ (HF b hx2).out).mono ?_); rintro e wc ⟨rfl, hb⟩)
      replace HB := below_next HB hb
      clear hb
      go_wp2_with fail
      ((with_reducible refine (depotlaw02_mixed.calls _ _ _ _ (HM a b hx1 hx2).out).mono ?_); rintro e wd ⟨rfl, hb⟩)
      replace HB := below_next HB hb
      clear hb
      have hx5 := HMS a b hx1
      generalize strOfNums (mixRow a b a.size) = m at hx5 ⊢
      go_wp2_with fail
      ((with_reducible refine (radix_Fold.calls _ _ _ _ _ (HF m hx5).out).mono ?_); rintro e we ⟨rfl, hb⟩)
      replace HB := below_next HB hb
      clear hb HF HM HMS H1
      go_wp2_with fail
      go_ret
      exact ⟨rfl, HB.out⟩

set_option maxHeartbeats 1000000 in
set_option maxRecDepth 100000 in
theorem mixes_in (a0 a1 : ByteArray) (a2 : Int) (w : World) (w0 : a0.size ≤ 140737488351232) (w1 : a1.size ≤ 140737488351232) (h1 : 1 ≤ a2) (h2 : a2 ≤ 64) :
    Calls Try.prog 4 #[.string a0, .string a1, .int .i64 a2] w fun e w' => e = .returned (.bool true) ∧ Below w.heap.size w w' := by
  have HB := Aside0.mk (Below.refl w.heap.size w)
  have hx1 : Aside0 ((a0.extract 0 a1.size).size ≤ 140737488351232) := ⟨by rw [ByteArray.size_extract]; omega⟩
  have hx2 : Aside0 ((a1.extract 0 (min a1.size a0.size)).size ≤ 140737488351232) := ⟨by rw [ByteArray.size_extract]; omega⟩
  have hx3 : Aside0 ((a1.extract 0 a0.size).size ≤ 140737488351232) := ⟨by rw [ByteArray.size_extract]; omega⟩
  have hx4 : Aside0 (a0.size ≤ 140737488351232) := ⟨w0⟩
  have H1 := Aside0.mk h1
  have H2 := Aside0.mk h2
  have d1 : decide (a2 < 1) = false := decide_eq_false (by omega)
  have d2 : decide (64 < a2) = false := decide_eq_false (by omega)
  clear h1 h2
  by_cases hc : a1.size < a0.size
  case' pos => have hx6 : Aside0 ((a0.extract 0 a1.size).size = (a1.extract 0 (min a1.size a0.size)).size) := ⟨by rw [ByteArray.size_extract, ByteArray.size_extract]; omega⟩
  case' neg => have hx6 : Aside0 (a0.size = (a1.extract 0 a0.size).size) := ⟨by rw [ByteArray.size_extract]; omega⟩
  case' pos =>
    go_enter Try.func4, Try.ntmps4
    go_wp2_with fail
    ((with_reducible refine (radix_Fold.calls _ _ _ _ _ fold_probe).mono ?_); rintro e wa ⟨rfl, hb⟩)
    replace HB := below_next HB hb
    clear hb
    go_wp2_with fail
    generalize a0.extract 0 a1.size = a at hx1 hx6 ⊢
    generalize a1.extract 0 (min a1.size a0.size) = b at hx2 hx6 ⊢
    clear hx3 hx4
  case' neg =>
    go_enter Try.func4, Try.ntmps4
    go_wp2_with fail
    ((with_reducible refine (radix_Fold.calls _ _ _ _ _ fold_probe).mono ?_); rintro e wa ⟨rfl, hb⟩)
    replace HB := below_next HB hb
    clear hb
    go_wp2_with fail
    generalize a1.extract 0 a0.size = b at hx3 hx6 ⊢
    clear hx1 hx2
    have hx1 := hx4
    have hx2 := hx3
    clear hx3 hx4
    generalize a0 = a at hx1 hx6 ⊢
  all_goals
    have FA := Aside0.mk (fold_in a a2 hx1.out H1.out H2.out)
    have FB := Aside0.mk (fold_in b a2 hx2.out H1.out H2.out)
    have MX := Aside0.mk (mixed_f a b hx1.out hx2.out)
    have SM : Aside0 ((strOfNums (mixRow a b a.size)).size ≤ 140737488351232) := ⟨by rw [strOfNums_size, mixRow_length]; exact hx1.out⟩
    have SX := Aside0.mk (foldText_size a a2 H1.out H2.out)
    have SY := Aside0.mk (foldText_size b a2 H1.out H2.out)
    have FM := Aside0.mk (fold_in (strOfNums (mixRow a b a.size)) a2 SM.out H1.out H2.out)
    have MY := Aside0.mk ((mixed_f (foldText a a2) (foldText b a2) (by have := SX.out; have := H2.out; omega) (by have := SY.out; have := H2.out; omega)).trans (congrArg some (fold_mix a b hx6.out a2 H1.out H2.out)))
    have SF := fun hb => Aside0.mk (fold_self a a2 H1.out H2.out hb)
    generalize strOfNums (mixRow a b a.size) = m at *
    generalize foldText a a2 = x at *
    generalize foldText b a2 = y at *
    generalize foldText m a2 = z at *
    have s1 : ((x.size : Int) != a2) = false := by rw [bne_eq_false_iff_eq]; have := SX.out; have := H1.out; omega
    have s2 : ((y.size : Int) != a2) = false := by rw [bne_eq_false_iff_eq]; have := SY.out; have := H1.out; omega
    by_cases hl : a2 < (a.size : Int)
    case' pos => (have hl' : decide (a2 < (a.size : Int)) = true := decide_eq_true hl); clear hl SF
    case' neg =>
      have hl' : decide (a2 < (a.size : Int)) = false := decide_eq_false hl
      have SF' := SF (by omega)
      have hsz : a.size ≤ x.size := by have := SX.out; have := H1.out; omega
      clear hl SF
    all_goals
      ((with_reducible refine (radix_Fold.calls _ _ _ _ _ FA.out).mono ?_); rintro e wb ⟨rfl, hb⟩)
      replace HB := below_next HB hb
      clear hb
      go_wp2_with fail
      ((with_reducible refine (radix_Fold.calls _ _ _ _ _ FB.out).mono ?_); rintro e wc ⟨rfl, hb⟩)
      replace HB := below_next HB hb
      clear hb
      go_wp2_with fail
      ((with_reducible refine (depotlaw02_mixed.calls _ _ _ _ MX.out).mono ?_); rintro e wd ⟨rfl, hb⟩)
      replace HB := below_next HB hb
      clear hb
      go_wp2_with fail
      ((with_reducible refine (radix_Fold.calls _ _ _ _ _ FM.out).mono ?_); rintro e we ⟨rfl, hb⟩)
      replace HB := below_next HB hb
      clear hb
      go_wp2_with fail
      ((with_reducible refine (depotlaw02_mixed.calls _ _ _ _ MY.out).mono ?_); rintro e wf ⟨rfl, hb⟩)
      replace HB := below_next HB hb
      clear hb
      (try (have SFe := SF'.out; clear SF'))
      go_wp2_with fail
      go_ret
      exact ⟨rfl, HB.out⟩

theorem walk (a0 a1 : ByteArray) (a2 : Int) (w : World) (w0 : a0.size ≤ 140737488351232) (w1 : a1.size ≤ 140737488351232) (w2 : (Lit.int .i64 a2).wf = true) :
    Calls Try.prog 4 #[.string a0, .string a1, .int .i64 a2] w fun e w' => e = .returned (.bool true) ∧ Below w.heap.size w w' := by
  by_cases h : 1 ≤ a2 ∧ a2 ≤ 64
  · exact mixes_in a0 a1 a2 w w0 w1 h.1 h.2
  · exact walk_out a0 a1 a2 w w0 w1 (by omega)
end Go.Proofs.Ytjbjdccnbjddjaa.RadixMixes
