import Derived.Test.YtnemeeidomceiaaPZTreeWalksx1
/-! The law about Walk in plain words: what the printed functions answer. -/
namespace Go.Proofs.Ytnemeeidomceiaa.PZTreeWalks
open Go.RowKit Go.Proofs.YtnemeeidomceiaaW.PrintWords Go.Proofs.Ytnemeeidomceiaa
set_option linter.unusedSimpArgs false
theorem held_awake : Held ⟨#[]⟩ [⟨⟨#[97]⟩, 1, false, ⟨#[120]⟩, []⟩] := ⟨Texts.mk (fun x hx => by
  rcases List.mem_singleton.1 hx with rfl
  exact ⟨by decide, by decide⟩) (fun x hx => by
  rcases List.mem_singleton.1 hx with rfl
  exact Texts.mk (fun _ h => by cases h) (fun _ h => by cases h)), by decide⟩
theorem awake_true : depotlaw06_awake.f = some true := by
  unfold depotlaw06_awake.f
  rw [show depotlaw06_leaf.f ⟨#[120]⟩ = some (1, false, ⟨#[120]⟩, []) from rfl]
  simp only [Option.bind_some]
  unfold tree_Size.f tree_Check.f tree_Walk.f
  rw [if_pos held_awake, if_pos held_awake, if_pos held_awake, awake_look]
  kernel_rfl
/-- The program's rows and the document's are alike. -/
theorem alike_rows (rows : List RowT) (hl : rows.length ≤ 1048576) : ∀ (m i : Nat), i + m = rows.length → depotlaw06_alike.l0 (m + 1) (rows.map rowR) (rows.map rowW) (rows.length : Int) (i : Int) = some true
  | 0, i, h => by
    rw [depotlaw06_alike.l0, if_neg (by omega)]
  | m + 1, i, h => by
    have hi : i < rows.length := by omega
    have r1 : rd_T52 (rows.map rowW) (i : Int) = rowW rows[i] := by simp [rd_T52, hi]
    have r2 : rd_T63 (rows.map rowR) (i : Int) = rowR rows[i] := by simp [rd_T63, hi]
    have hw : wrap64 ((i : Int) + 1) = ((i + 1 : Nat) : Int) := by
      rw [show (i : Int) + 1 = ((i + 1 : Nat) : Int) from by omega]
      exact (Go.Proofs.YtnemeeidomceiaaW.PrintLast.i64_w _).symm.trans (IntWalk.i64_in _ (by omega))
    rw [depotlaw06_alike.l0, if_pos (by omega), if_pos (by omega), if_pos (by rw [List.length_map]; omega), if_pos (by rw [List.length_map]; omega), r1, r2, hw, alike_rows rows hl m (i + 1) (by omega)]
    simp [rowW, rowR]
theorem rows_le (s : Look) (h : LookFair magS s) : (lookRows s).length ≤ 1048576 := by
  cases s with
  | bad q c => exact Nat.zero_le _
  | ok b rows =>
    obtain ⟨h1, h2⟩ := h
    have h3 := h2 (by rw [magS_eq]; decide)
    rw [magS_eq] at h1
    show rows.length ≤ _
    omega
theorem law_true (a : Int) (b : Bool) (c : ByteArray) (l : List S49) (h : Held c l) : ∃ k, depotlaw06_TreeWalks.f k a b c l = some true := by
  refine ⟨(lookRows (lookL a b c l)).length + 1, ?_⟩
  have lk : depotref06_Look.f a b c l = some ((lookRows (lookL a b c l)).map rowR, lookSize (lookL a b c l), lookCode (lookL a b c l), lookPath (lookL a b c l)) := if_pos h
  have wk : tree_Walk.f a b c l = some ((lookRows (lookL a b c l)).map rowW, lookCode (lookL a b c l)) := if_pos h
  have hk := rows_le _ (show LookFair magS (lookL a b c l) from nodeL_fair _ _ _ _)
  generalize lookL a b c l = s at *
  have al : depotlaw06_alike.f ((lookRows s).length + 1) ((lookRows s).map rowW) ((lookRows s).map rowR) = some true := by
    have := alike_rows (lookRows s) hk (lookRows s).length 0 (by omega)
    unfold depotlaw06_alike.f
    rw [List.length_map, List.length_map, if_pos rfl]
    exact this
  unfold depotlaw06_TreeWalks.f
  rw [awake_true, lk, wk]
  simp only [Option.bind_some, if_true]
  rw [al]
  rfl
end Go.Proofs.Ytnemeeidomceiaa.PZTreeWalks
