import Derived.Test.YtnemeeidomceiaaPZTreeChecksx1
/-! The law about Check and Size in plain words: what the printed functions answer. -/
namespace Go.Proofs.Ytnemeeidomceiaa.PZTreeChecks
open Go.RowKit Go.Proofs.YtnemeeidomceiaaW.PrintWords Go.Proofs.Ytnemeeidomceiaa
set_option linter.unusedSimpArgs false
theorem held_awake : Held ⟨#[]⟩ [⟨⟨#[97]⟩, 1, false, ⟨#[120]⟩, []⟩] := ⟨Texts.mk (fun x hx => by
  rcases List.mem_singleton.1 hx with rfl
  exact ⟨by decide, by decide⟩) (fun x hx => by
  rcases List.mem_singleton.1 hx with rfl
  exact Texts.mk (fun _ h => by cases h) (fun _ h => by cases h)), by decide⟩
theorem awake_true : depotlaw06_awake.f = some true := by
  unfold depotlaw06_awake.f
  rw [show depotlaw06_leaf.f ⟨#[120]⟩ = some (1, false, ⟨#[120]⟩, []) from rfl]
  simp only [Option.bind_some]
  unfold tree_Size.f tree_Check.f tree_Walk.f
  rw [if_pos held_awake, if_pos held_awake, if_pos held_awake, awake_look]
  kernel_rfl
theorem law_true (a : Int) (b : Bool) (c : ByteArray) (l : List S49) (h : Held c l) : depotlaw06_TreeChecks.f 1 a b c l = some true := by
  have ht : c.size ≤ 4611686018427387904 := Nat.le_trans h.2 (by decide)
  have hf : fieldsE 2 false c [] = targetE c := by unfold fieldsE; simp
  have e1 : targetE ⟨#[97]⟩ = 0 := by decide
  have e2 : targetE ⟨#[]⟩ = 63 := by decide
  have o : depotref06_Own.f 2 false c [] = some (targetE c, if targetE c = 0 then ownS 2 false c else 0) := by
    unfold depotref06_Own.f
    rw [if_pos ht, hf]
  have lk : depotref06_Look.f a b c l = some ((lookRows (lookL a b c l)).map rowR, lookSize (lookL a b c l), lookCode (lookL a b c l), lookPath (lookL a b c l)) := if_pos h
  have ck : tree_Check.f a b c l = some (lookPath (lookL a b c l), lookCode (lookL a b c l)) := if_pos h
  have sz : tree_Size.f a b c l = some (lookSize (lookL a b c l), lookCode (lookL a b c l)) := if_pos h
  unfold depotlaw06_TreeChecks.f
  rw [awake_true]
  simp only [Option.bind_some, tree_Target.f, e1, e2, if_true]
  show depotlaw06_TreeChecks.j0 1 (63 != 63) a b c l = _
  rw [depotlaw06_TreeChecks.j0, if_neg (by decide), o, lk, ck, sz]
  simp only [Option.bind_some, tree_Target.f, if_true, beq_self_eq_true]
end Go.Proofs.Ytnemeeidomceiaa.PZTreeChecks
