import Derived.Test.YtnemeeidomceiaaDoorPBTreeFirstx1Mf
set_option linter.unusedSimpArgs false
set_option linter.unusedVariables false
namespace Go.Proofs.YtnemeeidomceiaaDoor.PBTreeFirst
open Go.RowKit Go.Proofs.YtnemeeidomceiaaDoorW.PrintWords Go.Proofs.YtnemeeidomceiaaDoor
set_option linter.unusedSimpArgs false
theorem awake_true : depotlaw06_awake.f = some true := rfl
theorem build_some {l : List OwnRw} (h : RowsOk l) : tree_Build.f l = some (flatB (buildP (l.map rowU))) := if_pos h
theorem law_true (l : List OwnRw) (h : RowsOk l) (hl : l.length ≤ 140737488351232) : ∃ k, depotlaw06_TreeFirst.f k l = some true := by
 refine ⟨2, ?_⟩
 unfold depotlaw06_TreeFirst.f
 rw [awake_true, build_some h]
 simp only [Option.bind_some, if_true]
 have htk : ∀ j, RowsOk (l.take j) := fun j r hr => h r (List.mem_of_mem_take hr)
 by_cases h0 : l = []
 ·subst h0
  rfl
 ·have hlen : 0 < l.length := List.length_pos_iff.2 h0
  have hne : l.map rowU ≠ [] := fun e => h0 (List.map_eq_nil_iff.1 e)
  have hb : buildP (l.map rowU) = goB (l.map rowU) initB 0 := by unfold buildP; rw [if_neg hne]
  rcases goB_first (l.map rowU) initB 0 with ⟨h1, _⟩ | ⟨j, h1, h2, h3, h4⟩
  ·rw [hb]
   show (if (goB (l.map rowU) initB 0).2.1 = 0 then depotlaw06_TreeFirst.j0 2 l true (goB (l.map rowU) initB 0).2.1 (goB (l.map rowU) initB 0).2.2 else _) = _
   rw [if_pos h1, h1]
   show some (((0 : Int) == 50) == ((l.length : Int) == 0)) = some true
   rw [show ((l.length : Int) == 0) = false from beq_eq_false_iff_ne.mpr (by omega)]
   rfl
  ·rw [List.length_map] at h1
   rw [hb, h2]
   show (if (64 : Int) = 0 then _ else depotlaw06_TreeFirst.j0 2 l ((l.length : Int) == 0) 64 (0 + (j : Int))) = _
   rw [if_neg (by decide), show ((l.length : Int) == 0) = false from beq_eq_false_iff_ne.mpr (by omega), Int.zero_add]
   have hw : wrap64 ((j : Int) + 1) = ((j + 1 : Nat) : Int) := by
    rw [show (j : Int) + 1 = ((j + 1 : Nat) : Int) from by omega]
    exact (Go.Proofs.YtnemeeidomceiaaDoorW.PrintLast.i64_w _).symm.trans (IntWalk.i64_in _ (by omega))
   have htn : ∀ q, 0 < q → (l.map rowU).take q ≠ [] := fun q hq e => by
    rcases List.take_eq_nil_iff.1 e with h | h
    ·omega
    ·exact hne h
   have hb1 : tree_Build.f (l.take (j + 1)) = some (flatB (zeroT, 64, (j : Int))) := by
    rw [build_some (htk (j + 1)), List.map_take]
    unfold buildP
    rw [if_neg (htn _ (by omega)), h3, Int.zero_add]
   show depotlaw06_TreeFirst.j0 (1 + 1) l false 64 (j : Int) = _
   rw [depotlaw06_TreeFirst.j0]
   rw [if_neg (by decide), if_neg (by omega), if_neg (by omega)]
   show depotlaw06_TreeFirst.j1 (0 + 1) l false 64 (j : Int) = _
   rw [depotlaw06_TreeFirst.j1]
   rw [if_neg (by decide), hw, if_pos (by omega), if_pos (by omega), Int.toNat_natCast, hb1]
   simp only [Option.bind_some, flatB]
   by_cases hj : j = 0
   ·rw [if_pos (by omega), if_pos trivial, if_pos trivial]
   ·have hb2 : (buildP ((l.map rowU).take j)).2.1 = 0 := by
     unfold buildP
     rw [if_neg (htn _ (by omega)), h4]
    rw [if_neg (by omega), if_pos (by omega), if_pos (by omega), Int.toNat_natCast, build_some (htk j), List.map_take]
    simp only [Option.bind_some, flatB]
    rw [if_pos trivial, if_pos trivial, hb2]
    rfl
end Go.Proofs.YtnemeeidomceiaaDoor.PBTreeFirst
